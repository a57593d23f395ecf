/- Printed by a program of the prover: what the Go functions of this seat do, in steps. -/
import Derived.Test.YtfdfakapkhflcaaBaF
import Derived.Test.YtfdfakapkhflcaaBaB
set_option linter.unusedSectionVars false
set_option linter.unusedSimpArgs false
set_option linter.unusedVariables false
namespace Go.Proofs.Try
open Go Go.Am Go.RowKit
set_option maxHeartbeats 4000000
set_option maxRecDepth 100000
noncomputable section
variable [SymE]
def C43_0 : Code := bodyOf f43
theorem C43_is : f43.body = some C43_0 := by kernel_rfl
def C43_1 : Code := cl C43_0
def R43_0 : Array Oper := regOps C43_1
def C43_2 : Code := cr C43_0
def C43_3 : Code := cl C43_2
def C43_4 : Code := cl C43_3
def R43_1 : Array Oper := regOps C43_4
def C43_5 : Code := cr C43_3
def C43_6 : Code := cl C43_5
def C43_7 : Code := cl C43_6
def R43_2 : Array Oper := regOps C43_7
def C43_8 : Code := cr C43_6
def C43_9 : Code := cl C43_8
def R43_3 : Array Oper := regOps C43_9
def C43_10 : Code := cr C43_8
def C43_11 : Code := cr C43_5
def C43_12 : Code := cr C43_2
def C43_13 : Code := cl C43_12
def R43_4 : Array Oper := regOps C43_13
def C43_14 : Code := cr C43_12
def C43_15 : Code := cl C43_14
def R43_5 : Array Oper := regOps C43_15
def C43_16 : Code := cr C43_14
def C43_17 : Code := cl C43_16
def C43_18 : Code := cl C43_17
def R43_6 : Array Oper := regOps C43_18
def C43_19 : Code := cr C43_17
def C43_20 : Code := cl C43_19
def C43_21 : Code := cl C43_20
def C43_22 : Code := cl C43_21
def C43_23 : Code := cl C43_22
def R43_7 : Array Oper := regOps C43_23
def C43_24 : Code := cr C43_22
def C43_25 : Code := cl C43_24
def C43_26 : Code := cr C43_24
def C43_27 : Code := cr C43_21
def C43_28 : Code := cl C43_27
def C43_29 : Code := cl C43_28
def R43_9 : Array Oper := regOps C43_29
def C43_30 : Code := cr C43_27
def R43_8 : Array Oper := regOps C43_30
def C43_31 : Code := cr C43_16
def C43_32 : Code := cl C43_31
def C43_33 : Code := cl C43_32
def R43_10 : Array Oper := regOps C43_33
def C43_34 : Code := cr C43_32
def C43_35 : Code := cl C43_34
def C43_36 : Code := cl C43_35
def R43_11 : Array Oper := regOps C43_36
def C43_37 : Code := cr C43_35
def C43_38 : Code := cl C43_37
def R43_12 : Array Oper := regOps C43_38
def C43_39 : Code := cr C43_37
def C43_40 : Code := cr C43_34
def C43_41 : Code := cr C43_31
def C43_42 : Code := cl C43_41
def R43_13 : Array Oper := regOps C43_42
def C43_43 : Code := cr C43_41
def C43_44 : Code := cl C43_43
def R43_14 : Array Oper := regOps C43_44
def C43_45 : Code := cr C43_43
theorem R43_0_N : dstsOk 129 R43_0 = true := by decide +kernel
theorem E43_1 : C43_1 = .region 0 R43_0 false := rfl
theorem R43_1_N : dstsOk 129 R43_1 = true := by decide +kernel
theorem R43_1_O : linOk R43_1 [0, 1, 2, 3, 4, 5, 6, 7, 8, 9, 10, 11, 12, 13, 14, 15, 16, 17, 18, 19, 20, 21, 22, 23, 24, 25, 26, 27, 28, 29, 30, 31, 32, 33, 34, 35, 36, 37, 38, 39, 40, 41, 42, 43, 44, 45, 46, 47, 48, 49, 50, 51, 52, 53] [] = true := by decide +kernel
theorem E43_4 : C43_4 = .region 1 R43_1 true := rfl
theorem R43_2_N : dstsOk 129 R43_2 = true := by decide +kernel
theorem E43_7 : C43_7 = .region 2 R43_2 false := rfl
theorem R43_3_N : dstsOk 129 R43_3 = true := by decide +kernel
theorem E43_9 : C43_9 = .region 3 R43_3 false := rfl
theorem E43_10 : C43_10 = .ret := rfl
theorem E43_8 : C43_8 = .seq C43_9 C43_10 := rfl
theorem E43_6 : C43_6 = .seq C43_7 C43_8 := rfl
theorem E43_11 : C43_11 = .skip := rfl
theorem E43_5 : C43_5 = .cond (.tmp 59) C43_6 C43_11 := rfl
theorem E43_3 : C43_3 = .seq C43_4 C43_5 := rfl
theorem R43_4_N : dstsOk 129 R43_4 = true := by decide +kernel
theorem E43_13 : C43_13 = .region 4 R43_4 false := rfl
theorem R43_5_N : dstsOk 129 R43_5 = true := by decide +kernel
theorem R43_5_O : linOk R43_5 [0, 1, 2, 3, 4, 5, 6, 7, 8, 9, 10, 11] [] = true := by decide +kernel
theorem E43_15 : C43_15 = .region 5 R43_5 true := rfl
theorem R43_6_N : dstsOk 129 R43_6 = true := by decide +kernel
theorem E43_18 : C43_18 = .region 6 R43_6 false := rfl
theorem R43_7_N : dstsOk 129 R43_7 = true := by decide +kernel
theorem E43_23 : C43_23 = .region 7 R43_7 false := rfl
theorem E43_25 : C43_25 = .skip := rfl
theorem E43_26 : C43_26 = .exit 0 := rfl
theorem E43_24 : C43_24 = .cond (.tmp 76) C43_25 C43_26 := rfl
theorem E43_22 : C43_22 = .seq C43_23 C43_24 := rfl
theorem R43_9_N : dstsOk 129 R43_9 = true := by decide +kernel
theorem R43_9_O : linOk R43_9 [0, 1, 2, 3, 4, 5, 6, 7, 8, 9, 10, 11, 12, 13, 14, 15] [(16, [], [])] = true := by decide +kernel
theorem E43_29 : C43_29 = .region 9 R43_9 true := rfl
theorem E43_28 : C43_28 = .block 1 C43_29 := rfl
theorem R43_8_N : dstsOk 129 R43_8 = true := by decide +kernel
theorem E43_30 : C43_30 = .region 8 R43_8 false := rfl
theorem E43_27 : C43_27 = .seq C43_28 C43_30 := rfl
theorem E43_21 : C43_21 = .seq C43_22 C43_27 := rfl
theorem E43_20 : C43_20 = .loop C43_21 := rfl
theorem E43_19 : C43_19 = .block 0 C43_20 := rfl
theorem E43_17 : C43_17 = .seq C43_18 C43_19 := rfl
theorem R43_10_N : dstsOk 129 R43_10 = true := by decide +kernel
theorem R43_10_O : linOk R43_10 [0, 3, 4, 5, 6, 7, 8, 9, 10, 11, 12, 13, 14, 15, 16, 17, 18, 19] [(1, [3, 4, 5, 6, 7, 8, 9, 10, 11, 12, 13, 14, 15, 16, 17, 18, 19], [2, 20])] = true := by decide +kernel
theorem E43_33 : C43_33 = .region 10 R43_10 true := rfl
theorem R43_11_N : dstsOk 129 R43_11 = true := by decide +kernel
theorem E43_36 : C43_36 = .region 11 R43_11 false := rfl
theorem R43_12_N : dstsOk 129 R43_12 = true := by decide +kernel
theorem E43_38 : C43_38 = .region 12 R43_12 false := rfl
theorem E43_39 : C43_39 = .ret := rfl
theorem E43_37 : C43_37 = .seq C43_38 C43_39 := rfl
theorem E43_35 : C43_35 = .seq C43_36 C43_37 := rfl
theorem E43_40 : C43_40 = .skip := rfl
theorem E43_34 : C43_34 = .cond (.tmp 115) C43_35 C43_40 := rfl
theorem E43_32 : C43_32 = .seq C43_33 C43_34 := rfl
theorem R43_13_N : dstsOk 129 R43_13 = true := by decide +kernel
theorem E43_42 : C43_42 = .region 13 R43_13 false := rfl
theorem R43_14_N : dstsOk 129 R43_14 = true := by decide +kernel
theorem E43_44 : C43_44 = .region 14 R43_14 false := rfl
theorem E43_45 : C43_45 = .ret := rfl
theorem E43_43 : C43_43 = .seq C43_44 C43_45 := rfl
theorem E43_41 : C43_41 = .seq C43_42 C43_43 := rfl
theorem E43_31 : C43_31 = .seq C43_32 C43_41 := rfl
theorem E43_16 : C43_16 = .seq C43_17 C43_31 := rfl
theorem E43_14 : C43_14 = .seq C43_15 C43_16 := rfl
theorem E43_12 : C43_12 = .seq C43_13 C43_14 := rfl
theorem E43_2 : C43_2 = .seq C43_3 C43_12 := rfl
theorem E43_0 : C43_0 = .seq C43_1 C43_2 := rfl
def S43_1s (Q : Int → AW → Prop) (E : List PanicEntry → AW → Prop)  (nx1 : Value → Int → Int → Int → AW → Prop) (r_0 : Value) (n_3 : Int) (k_4 : Int) (i_5 : Int) (aw : AW) : Prop :=
  cnd (decide (i_5 ≤ k_4)) (nck r_0 (fldA r_0 0 fun p3 =>
  ldV aw p3 fun x11 =>
  nck r_0 (fldA r_0 1 fun p14 =>
  ldI .i64 aw p14 fun x22 =>
  ixS x11 (IntKind.i64.wrap (x22 + i_5)) 1 fun p24 =>
  ldI .u8 aw p24 fun x36 =>
  nx1 r_0 (IntKind.u64.wrap ((IntKind.u64.wrap (n_3 * 256)) + (IntKind.u64.wrap x36))) k_4 (IntKind.i64.wrap (i_5 + 1)) aw))) (nck r_0 (fldA r_0 0 fun p39 =>
  ldV aw p39 fun x47 =>
  nck r_0 (fldA r_0 1 fun p50 =>
  ldI .i64 aw p50 fun x58 =>
  nck r_0 (fldA r_0 1 fun p61 =>
  ldI .i64 aw p61 fun x69 =>
  cutV aw 1 x47 x58 (IntKind.i64.wrap ((IntKind.i64.wrap (x69 + k_4)) + 1)) fun v71 =>
  toS aw v71 fun s73 =>
  CallP prog 51 [.int .u64 n_3] aw sh51 (fun r80 aw81 =>
  again1 aw81 p39 (x47) ∧ again1 aw81 p50 (.int .i64 x58) ∧ again1 aw81 p61 (.int .i64 x69) ∧ Cut aw81 1 x47 x58 (IntKind.i64.wrap ((IntKind.i64.wrap (x69 + k_4)) + 1)) v71 ∧ againS aw81 v71 s73 ∧ toS aw81 r80 fun s82 =>
  cnd (!decide (s82 = s73)) (nck r_0 (fldA r_0 1 fun p91 =>
  st aw81 p91 [.int .i64 (-1)] fun aw96 =>
  Q 0 aw96)) (nck r_0 (fldA r_0 1 fun p104 =>
  ldI .i64 aw81 p104 fun x112 =>
  nck r_0 (fldA r_0 1 fun p115 =>
  st aw81 p115 [.int .i64 (IntKind.i64.wrap (x112 + (IntKind.i64.wrap (k_4 + 1))))] fun aw120 =>
  Q n_3 aw120)))) E))))
def S43_1 (Q : Int → AW → Prop) (E : List PanicEntry → AW → Prop)  : Nat → Value → Int → Int → Int → AW → Prop
  | 0 => fun _ _ _ _ _ => False
  | n + 1 => S43_1s Q E  (S43_1 Q E  n)
def S43_0 (Q : Int → AW → Prop) (E : List PanicEntry → AW → Prop)  (r_0 : Value) (aw : AW) : Prop :=
  nck r_0 (fldA r_0 1 fun p128 =>
  ldI .i64 aw p128 fun x136 =>
  cnd (decide (x136 < 0)) (nck r_0 (fldA r_0 1 fun p141 =>
  st aw p141 [.int .i64 (-1)] fun aw146 =>
  Q 0 aw146)) (nck r_0 (fldA r_0 1 fun p154 =>
  ldI .i64 aw p154 fun x162 =>
  nck r_0 (fldA r_0 0 fun p165 =>
  ldV aw p165 fun x173 =>
  slen x173 fun n175 =>
  cnd (decide (n175 ≤ x162)) (nck r_0 (fldA r_0 1 fun p184 =>
  st aw p184 [.int .i64 (-1)] fun aw189 =>
  Q 0 aw189)) (nck r_0 (fldA r_0 0 fun p197 =>
  ldV aw p197 fun x205 =>
  nck r_0 (fldA r_0 1 fun p208 =>
  ldI .i64 aw p208 fun x216 =>
  ixS x205 x216 1 fun p218 =>
  ldI .u8 aw p218 fun x230 =>
  cnd (decide (8 < x230)) (nck r_0 (fldA r_0 1 fun p235 =>
  st aw p235 [.int .i64 (-1)] fun aw240 =>
  Q 0 aw240)) (nck r_0 (fldA r_0 0 fun p248 =>
  ldV aw p248 fun x256 =>
  nck r_0 (fldA r_0 1 fun p259 =>
  ldI .i64 aw p259 fun x267 =>
  ixS x256 x267 1 fun p269 =>
  ldI .u8 aw p269 fun x281 =>
  nck r_0 (fldA r_0 0 fun p284 =>
  ldV aw p284 fun x292 =>
  slen x292 fun n294 =>
  nck r_0 (fldA r_0 1 fun p301 =>
  ldI .i64 aw p301 fun x309 =>
  cnd (decide ((IntKind.i64.wrap (n294 - x309)) ≤ (IntKind.i64.wrap x281))) (nck r_0 (fldA r_0 1 fun p313 =>
  st aw p313 [.int .i64 (-1)] fun aw318 =>
  Q 0 aw318)) (nck r_0 (fldA r_0 0 fun p326 =>
  ldV aw p326 fun x334 =>
  nck r_0 (fldA r_0 1 fun p337 =>
  ldI .i64 aw p337 fun x345 =>
  ixS x334 x345 1 fun p347 =>
  ldI .u8 aw p347 fun x359 =>
  ∃ n, S43_1 Q E  n r_0 0 (IntKind.i64.wrap x359) 1 aw)))))))))))))))
theorem S43_1s_ok (Q : Int → AW → Prop) (E : List PanicEntry → AW → Prop)  (nx1 : Value → Int → Int → Int → AW → Prop) (L1 : ∀ (ρ : Env) (r_0 : Value) (n_3 : Int) (k_4 : Int) (i_5 : Int) (aw : AW) (h0 : ρ 0 = r_0) (h3 : ρ 3 = .int .u64 n_3) (h4 : ρ 4 = .int .i64 k_4) (h5 : ρ 5 = .int .i64 i_5), nx1 r_0 n_3 k_4 i_5 aw → AGo prog 129 [.code C43_21, .inLoop C43_21, .inBlock 0, .code C43_31] ρ [] aw (RR prog f43 129 sh43 Q E)) (ρ : Env) (r_0 : Value) (n_3 : Int) (k_4 : Int) (i_5 : Int) (aw : AW) (h0 : ρ 0 = r_0) (h3 : ρ 3 = .int .u64 n_3) (h4 : ρ 4 = .int .i64 k_4) (h5 : ρ 5 = .int .i64 i_5) (H : S43_1s Q E  nx1 r_0 n_3 k_4 i_5 aw) :
    AGo prog 129 [.code C43_21, .inLoop C43_21, .inBlock 0, .code C43_31] ρ [] aw (RR prog f43 129 sh43 Q E) := by
  unfold S43_1s at H
  refine ago_seqE E43_21 ?_
  refine ago_seqE E43_22 ?_
  refine ago_regE E43_23 (l := [0, 1, 2]) rfl ?_
  refine lk (dt := some 74) R43_7_N rfl rfl rfl (opv_move rfl rfl h5) ?_
  refine lk (dt := some 75) R43_7_N rfl rfl rfl (opv_move rfl rfl h4) ?_
  refine lk (dt := some 76) R43_7_N rfl rfl rfl (opv_le rfl rfl rfl rfl rfl) ?_
  refine aops_nil ?_
  refine ago_condE  E43_24 rfl rfl (fun hb1 => ?_) (fun hb1 => ?_)
  · replace H := cnd_t H hb1
    refine ago_skipE E43_25 ?_
    refine ago_seqE E43_27 ?_
    refine ago_blockE E43_28 ?_
    obtain ⟨hp2, H⟩ := H
    obtain ⟨b4, i5, p3, hp6, hv7, H⟩ := H
    obtain ⟨b8, i9, x11, hp10, hg12, H⟩ := H
    obtain ⟨hp13, H⟩ := H
    obtain ⟨b15, i16, p14, hp17, hv18, H⟩ := H
    obtain ⟨b19, i20, x22, hp21, hg23, H⟩ := H
    obtain ⟨b25, i26, l27, c28, p24, hp29, h030, hj31, hv32, H⟩ := H
    obtain ⟨b33, i34, x36, hp35, hg37, H⟩ := H
    refine ago_drawH (p := [0, 1, 2, 3, 4, 5, 6, 7, 8, 9, 10, 11, 12, 13, 14, 15]) (tl := [(16, [], [])]) (hv := [(0, Value.int .u64 n_3), (1, Value.int .u64 (IntKind.u64.wrap (n_3 * 256))), (2, r_0), (3, r_0), (4, p3), (5, x11), (6, r_0), (7, r_0), (8, p14), (9, Value.int .i64 x22), (10, Value.int .i64 i_5), (11, Value.int .i64 (IntKind.i64.wrap (x22 + i_5))), (12, p24), (13, Value.int .u8 x36), (14, Value.int .u64 (IntKind.u64.wrap x36)), (15, Value.int .u64 (IntKind.u64.wrap ((IntKind.u64.wrap (n_3 * 256)) + (IntKind.u64.wrap x36))))]) E43_29 mixed R43_9_N R43_9_O rfl (pv_cons rfl (pv_cons rfl (pv_cons rfl (pv_cons rfl (pv_cons rfl (pv_cons rfl (pv_cons rfl (pv_cons rfl (pv_cons rfl (pv_cons rfl (pv_cons rfl (pv_cons rfl (pv_cons rfl (pv_cons rfl (pv_cons rfl (pv_cons rfl (pv_nil _)))))))))))))))))
      (ffc (d := 79) (v := .int .u64 n_3) (hd_v rfl fun ρ hρ => ⟨rfl, opv_move rfl rfl ((hρ 3 (lmem rfl)).trans h3)⟩) rfl rfl
      (ffc (d := 80) (v := .int .u64 (IntKind.u64.wrap (n_3 * 256))) (hd_v rfl fun ρ hρ => ⟨rfl, opv_mul rfl rfl rfl ((hρ 79 (lmem rfl)).trans rfl) rfl⟩) rfl rfl
      (ffc (d := 81) (v := r_0) (hd_v rfl fun ρ hρ => ⟨rfl, opv_move rfl rfl ((hρ 0 (lmem rfl)).trans h0)⟩) rfl rfl
      (ffc (d := 82) (v := r_0) (hd_v rfl fun ρ hρ => ⟨rfl, ov_nck rfl rfl ((hρ 81 (lmem rfl)).trans rfl) hp2⟩) rfl rfl
      (ffc (d := 83) (v := p3) (hd_v rfl fun ρ hρ => ⟨rfl, ov_fldA rfl rfl underlying94 rfl sz25 (by decide) ((hρ 82 (lmem rfl)).trans rfl) hp6 rfl hv7⟩) rfl rfl
      (ffc (d := 84) (v := x11) (hd_v rfl fun ρ hρ => ⟨rfl, ov_ldV rfl underlying25 rfl rfl ((hρ 83 (lmem rfl)).trans rfl) hp10 hg12⟩) rfl rfl
      (ffc (d := 85) (v := r_0) (hd_v rfl fun ρ hρ => ⟨rfl, opv_move rfl rfl ((hρ 0 (lmem rfl)).trans h0)⟩) rfl rfl
      (ffc (d := 86) (v := r_0) (hd_v rfl fun ρ hρ => ⟨rfl, ov_nck rfl rfl ((hρ 85 (lmem rfl)).trans rfl) hp13⟩) rfl rfl
      (ffc (d := 87) (v := p14) (hd_v rfl fun ρ hρ => ⟨rfl, ov_fldA rfl rfl underlying94 rfl sz3 (by decide) ((hρ 86 (lmem rfl)).trans rfl) hp17 rfl hv18⟩) rfl rfl
      (ffc (d := 88) (v := .int .i64 x22) (hd_v rfl fun ρ hρ => ⟨rfl, ov_ldI rfl underlying3 rfl ((hρ 87 (lmem rfl)).trans rfl) hp21 hg23⟩) rfl rfl
      (ffc (d := 89) (v := .int .i64 i_5) (hd_v rfl fun ρ hρ => ⟨rfl, opv_move rfl rfl ((hρ 5 (lmem rfl)).trans h5)⟩) rfl rfl
      (ffc (d := 90) (v := .int .i64 (IntKind.i64.wrap (x22 + i_5))) (hd_v rfl fun ρ hρ => ⟨rfl, opv_add rfl rfl rfl ((hρ 88 (lmem rfl)).trans rfl) ((hρ 89 (lmem rfl)).trans rfl)⟩) rfl rfl
      (ffc (d := 91) (v := p24) (hd_v rfl fun ρ hρ => ⟨rfl, ov_ixS rfl rfl rfl underlying25 sz5 ((hρ 84 (lmem rfl)).trans rfl) ((hρ 90 (lmem rfl)).trans rfl) hp29 h030 hj31 hv32⟩) rfl rfl
      (ffc (d := 92) (v := .int .u8 x36) (hd_v rfl fun ρ hρ => ⟨rfl, ov_ldI rfl underlying5 rfl ((hρ 91 (lmem rfl)).trans rfl) hp35 hg37⟩) rfl rfl
      (ffc (d := 93) (v := .int .u64 (IntKind.u64.wrap x36)) (hd_v rfl fun ρ hρ => ⟨rfl, opv_conv rfl rfl underlying5 underlying24 ((hρ 92 (lmem rfl)).trans rfl)⟩) rfl rfl
      (ffc (d := 94) (v := .int .u64 (IntKind.u64.wrap ((IntKind.u64.wrap (n_3 * 256)) + (IntKind.u64.wrap x36)))) (hd_v rfl fun ρ hρ => ⟨rfl, opv_add rfl rfl rfl ((hρ 80 (lmem rfl)).trans rfl) ((hρ 93 (lmem rfl)).trans rfl)⟩) rfl rfl
      ffn)))))))))))))))) ?_
    refine lt_val (dt := some 3) (v := .int .u64 (IntKind.u64.wrap ((IntKind.u64.wrap (n_3 * 256)) + (IntKind.u64.wrap x36)))) rfl rfl (fun ρ hρ => ⟨rfl, opv_assign rfl rfl ((hρ 94 (lmem rfl)).trans rfl)⟩) ?_
    refine lt_next (l := []) (hv := []) rfl rfl (pv_nil _)
      ffn ?_
    refine lt_end ?_
    refine ago_inBlock ?_
    refine ago_cut (fun ρ => ρ 0 = r_0 ∧ ρ 3 = .int .u64 (IntKind.u64.wrap ((IntKind.u64.wrap (n_3 * 256)) + (IntKind.u64.wrap x36))) ∧ ρ 4 = .int .i64 k_4 ∧ ρ 5 = .int .i64 i_5 ∧ True) ⟨h0, rfl, h4, h5, trivial⟩ (fun ρ ⟨h0, h3, h4, h5, _⟩ => ?_)
    refine ago_regE E43_30 (l := [0, 1, 2]) rfl ?_
    refine lk (dt := some 77) R43_8_N rfl rfl rfl (opv_move rfl rfl h5) ?_
    refine lk (dt := some 78) R43_8_N rfl rfl rfl (opv_add rfl rfl rfl rfl rfl) ?_
    refine lk (dt := some 5) R43_8_N rfl rfl rfl (opv_assign rfl rfl rfl) ?_
    refine aops_nil ?_
    refine ago_inLoop ?_
    exact L1 _ r_0 (IntKind.u64.wrap ((IntKind.u64.wrap (n_3 * 256)) + (IntKind.u64.wrap x36))) k_4 (IntKind.i64.wrap (i_5 + 1)) aw h0 h3 h4 rfl H
  · replace H := cnd_f H hb1
    refine ago_exitE E43_26 rfl ?_
    refine ago_seqE E43_31 ?_
    refine ago_seqE E43_32 ?_
    obtain ⟨hp38, H⟩ := H
    obtain ⟨b40, i41, p39, hp42, hv43, H⟩ := H
    obtain ⟨b44, i45, x47, hp46, hg48, H⟩ := H
    obtain ⟨hp49, H⟩ := H
    obtain ⟨b51, i52, p50, hp53, hv54, H⟩ := H
    obtain ⟨b55, i56, x58, hp57, hg59, H⟩ := H
    obtain ⟨hp60, H⟩ := H
    obtain ⟨b62, i63, p61, hp64, hv65, H⟩ := H
    obtain ⟨b66, i67, x69, hp68, hg70, H⟩ := H
    obtain ⟨v71, hq72, H⟩ := H
    obtain ⟨l78, n77, s73, hs74, hq75, hv76, H⟩ := H
    have hl79 := srcB_len hs74
    refine ago_drawH (p := [0, 3, 4, 5, 6, 7, 8, 9, 10, 11, 12, 13, 14, 15, 16, 17, 18, 19]) (tl := [(1, [3, 4, 5, 6, 7, 8, 9, 10, 11, 12, 13, 14, 15, 16, 17, 18, 19], [2, 20])]) (hv := [(0, Value.int .u64 n_3), (3, r_0), (4, r_0), (5, p39), (6, x47), (7, r_0), (8, r_0), (9, p50), (10, Value.int .i64 x58), (11, r_0), (12, r_0), (13, p61), (14, Value.int .i64 x69), (15, Value.int .i64 k_4), (16, Value.int .i64 (IntKind.i64.wrap (x69 + k_4))), (17, Value.int .i64 (IntKind.i64.wrap ((IntKind.i64.wrap (x69 + k_4)) + 1))), (18, v71), (19, Value.string s73)]) E43_33 mixed R43_10_N R43_10_O rfl (pv_cons rfl (pv_cons rfl (pv_cons rfl (pv_cons rfl (pv_cons rfl (pv_cons rfl (pv_cons rfl (pv_cons rfl (pv_cons rfl (pv_cons rfl (pv_cons rfl (pv_cons rfl (pv_cons rfl (pv_cons rfl (pv_cons rfl (pv_cons rfl (pv_cons rfl (pv_cons rfl (pv_nil _)))))))))))))))))))
      (ffc (d := 95) (v := .int .u64 n_3) (hd_v rfl fun ρ hρ => ⟨rfl, opv_move rfl rfl ((hρ 3 (lmem rfl)).trans h3)⟩) rfl rfl
      (ffc (d := 98) (v := r_0) (hd_v rfl fun ρ hρ => ⟨rfl, opv_move rfl rfl ((hρ 0 (lmem rfl)).trans h0)⟩) rfl rfl
      (ffc (d := 99) (v := r_0) (hd_v rfl fun ρ hρ => ⟨rfl, ov_nck rfl rfl ((hρ 98 (lmem rfl)).trans rfl) hp38⟩) rfl rfl
      (ffc (d := 100) (v := p39) (hd_v rfl fun ρ hρ => ⟨rfl, ov_fldA rfl rfl underlying94 rfl sz25 (by decide) ((hρ 99 (lmem rfl)).trans rfl) hp42 rfl hv43⟩) rfl rfl
      (ffc (d := 101) (v := x47) (hd_v rfl fun ρ hρ => ⟨rfl, ov_ldV rfl underlying25 rfl rfl ((hρ 100 (lmem rfl)).trans rfl) hp46 hg48⟩) rfl rfl
      (ffc (d := 102) (v := r_0) (hd_v rfl fun ρ hρ => ⟨rfl, opv_move rfl rfl ((hρ 0 (lmem rfl)).trans h0)⟩) rfl rfl
      (ffc (d := 103) (v := r_0) (hd_v rfl fun ρ hρ => ⟨rfl, ov_nck rfl rfl ((hρ 102 (lmem rfl)).trans rfl) hp49⟩) rfl rfl
      (ffc (d := 104) (v := p50) (hd_v rfl fun ρ hρ => ⟨rfl, ov_fldA rfl rfl underlying94 rfl sz3 (by decide) ((hρ 103 (lmem rfl)).trans rfl) hp53 rfl hv54⟩) rfl rfl
      (ffc (d := 105) (v := .int .i64 x58) (hd_v rfl fun ρ hρ => ⟨rfl, ov_ldI rfl underlying3 rfl ((hρ 104 (lmem rfl)).trans rfl) hp57 hg59⟩) rfl rfl
      (ffc (d := 106) (v := r_0) (hd_v rfl fun ρ hρ => ⟨rfl, opv_move rfl rfl ((hρ 0 (lmem rfl)).trans h0)⟩) rfl rfl
      (ffc (d := 107) (v := r_0) (hd_v rfl fun ρ hρ => ⟨rfl, ov_nck rfl rfl ((hρ 106 (lmem rfl)).trans rfl) hp60⟩) rfl rfl
      (ffc (d := 108) (v := p61) (hd_v rfl fun ρ hρ => ⟨rfl, ov_fldA rfl rfl underlying94 rfl sz3 (by decide) ((hρ 107 (lmem rfl)).trans rfl) hp64 rfl hv65⟩) rfl rfl
      (ffc (d := 109) (v := .int .i64 x69) (hd_v rfl fun ρ hρ => ⟨rfl, ov_ldI rfl underlying3 rfl ((hρ 108 (lmem rfl)).trans rfl) hp68 hg70⟩) rfl rfl
      (ffc (d := 110) (v := .int .i64 k_4) (hd_v rfl fun ρ hρ => ⟨rfl, opv_move rfl rfl ((hρ 4 (lmem rfl)).trans h4)⟩) rfl rfl
      (ffc (d := 111) (v := .int .i64 (IntKind.i64.wrap (x69 + k_4))) (hd_v rfl fun ρ hρ => ⟨rfl, opv_add rfl rfl rfl ((hρ 109 (lmem rfl)).trans rfl) ((hρ 110 (lmem rfl)).trans rfl)⟩) rfl rfl
      (ffc (d := 112) (v := .int .i64 (IntKind.i64.wrap ((IntKind.i64.wrap (x69 + k_4)) + 1))) (hd_v rfl fun ρ hρ => ⟨rfl, opv_add rfl rfl rfl ((hρ 111 (lmem rfl)).trans rfl) rfl⟩) rfl rfl
      (ffc (d := 113) (v := v71) (hd_v rfl fun ρ hρ => ⟨rfl, ov_cutV rfl rfl underlying25 sz5 ((hρ 101 (lmem rfl)).trans rfl) (bndS ((hρ 105 (lmem rfl)).trans rfl)) (bndS ((hρ 112 (lmem rfl)).trans rfl)) hq72⟩) rfl rfl
      (ffc (d := 114) (v := .string s73) (hd_v rfl fun ρ hρ => ⟨rfl, ov_toS rfl rfl underlying25 underlying9 underlying5 ((hρ 113 (lmem rfl)).trans rfl) hs74 hq75 hv76⟩) rfl rfl
      ffn)))))))))))))))))) ?_
    refine lt_call (dt := some 96) rfl rfl (fun ρ hρ => ⟨rfl, opc_of rfl rfl is51 (ma_cons ((hρ 95 (lmem rfl)).trans rfl) rfl)⟩) H (fun _ _ h _ => ⟨rfl, h⟩) fun r80 aw81 H => ?_
    obtain ⟨hg48, H⟩ := H
    replace hg48 := hg48 _ _ hp46
    obtain ⟨hg59, H⟩ := H
    replace hg59 := hg59 _ _ hp57
    obtain ⟨hg70, H⟩ := H
    replace hg70 := hg70 _ _ hp68
    obtain ⟨hq72, H⟩ := H
    obtain ⟨hs74, H⟩ := H
    replace hs74 := hs74 _ n77 hl79 hq75 hv76
    obtain ⟨l87, n86, s82, hs83, hq84, hv85, H⟩ := H
    have hl88 := srcB_len hs83
    refine lt_next (l := [3, 4, 5, 6, 7, 8, 9, 10, 11, 12, 13, 14, 15, 16, 17, 18, 19, 2, 20]) (hv := [(2, Value.string s82), (20, Value.bool (!decide (s82 = s73)))]) rfl rfl (pv_cons rfl (pv_cons rfl (pv_nil _)))
      (ffc (d := 98) (v := r_0) (hd_v rfl fun ρ hρ => ⟨rfl, opv_move rfl rfl ((hρ 0 (lmem rfl)).trans h0)⟩) rfl rfl
      (ffc (d := 99) (v := r_0) (hd_v rfl fun ρ hρ => ⟨rfl, ov_nck rfl rfl ((hρ 98 (lmem rfl)).trans rfl) hp38⟩) rfl rfl
      (ffc (d := 100) (v := p39) (hd_v rfl fun ρ hρ => ⟨rfl, ov_fldA rfl rfl underlying94 rfl sz25 (by decide) ((hρ 99 (lmem rfl)).trans rfl) hp42 rfl hv43⟩) rfl rfl
      (ffc (d := 101) (v := x47) (hd_v rfl fun ρ hρ => ⟨rfl, ov_ldV rfl underlying25 rfl rfl ((hρ 100 (lmem rfl)).trans rfl) hp46 hg48⟩) rfl rfl
      (ffc (d := 102) (v := r_0) (hd_v rfl fun ρ hρ => ⟨rfl, opv_move rfl rfl ((hρ 0 (lmem rfl)).trans h0)⟩) rfl rfl
      (ffc (d := 103) (v := r_0) (hd_v rfl fun ρ hρ => ⟨rfl, ov_nck rfl rfl ((hρ 102 (lmem rfl)).trans rfl) hp49⟩) rfl rfl
      (ffc (d := 104) (v := p50) (hd_v rfl fun ρ hρ => ⟨rfl, ov_fldA rfl rfl underlying94 rfl sz3 (by decide) ((hρ 103 (lmem rfl)).trans rfl) hp53 rfl hv54⟩) rfl rfl
      (ffc (d := 105) (v := .int .i64 x58) (hd_v rfl fun ρ hρ => ⟨rfl, ov_ldI rfl underlying3 rfl ((hρ 104 (lmem rfl)).trans rfl) hp57 hg59⟩) rfl rfl
      (ffc (d := 106) (v := r_0) (hd_v rfl fun ρ hρ => ⟨rfl, opv_move rfl rfl ((hρ 0 (lmem rfl)).trans h0)⟩) rfl rfl
      (ffc (d := 107) (v := r_0) (hd_v rfl fun ρ hρ => ⟨rfl, ov_nck rfl rfl ((hρ 106 (lmem rfl)).trans rfl) hp60⟩) rfl rfl
      (ffc (d := 108) (v := p61) (hd_v rfl fun ρ hρ => ⟨rfl, ov_fldA rfl rfl underlying94 rfl sz3 (by decide) ((hρ 107 (lmem rfl)).trans rfl) hp64 rfl hv65⟩) rfl rfl
      (ffc (d := 109) (v := .int .i64 x69) (hd_v rfl fun ρ hρ => ⟨rfl, ov_ldI rfl underlying3 rfl ((hρ 108 (lmem rfl)).trans rfl) hp68 hg70⟩) rfl rfl
      (ffc (d := 110) (v := .int .i64 k_4) (hd_v rfl fun ρ hρ => ⟨rfl, opv_move rfl rfl ((hρ 4 (lmem rfl)).trans h4)⟩) rfl rfl
      (ffc (d := 111) (v := .int .i64 (IntKind.i64.wrap (x69 + k_4))) (hd_v rfl fun ρ hρ => ⟨rfl, opv_add rfl rfl rfl ((hρ 109 (lmem rfl)).trans rfl) ((hρ 110 (lmem rfl)).trans rfl)⟩) rfl rfl
      (ffc (d := 112) (v := .int .i64 (IntKind.i64.wrap ((IntKind.i64.wrap (x69 + k_4)) + 1))) (hd_v rfl fun ρ hρ => ⟨rfl, opv_add rfl rfl rfl ((hρ 111 (lmem rfl)).trans rfl) rfl⟩) rfl rfl
      (ffc (d := 113) (v := v71) (hd_v rfl fun ρ hρ => ⟨rfl, ov_cutV rfl rfl underlying25 sz5 ((hρ 101 (lmem rfl)).trans rfl) (bndS ((hρ 105 (lmem rfl)).trans rfl)) (bndS ((hρ 112 (lmem rfl)).trans rfl)) hq72⟩) rfl rfl
      (ffc (d := 114) (v := .string s73) (hd_v rfl fun ρ hρ => ⟨rfl, ov_toS rfl rfl underlying25 underlying9 underlying5 ((hρ 113 (lmem rfl)).trans rfl) hs74 hq75 hv76⟩) rfl rfl
      (ffc (d := 97) (v := .string s82) (hd_v rfl fun ρ hρ => ⟨rfl, ov_toS rfl rfl underlying25 underlying9 underlying5 ((hρ 96 (lmem rfl)).trans rfl) hs83 hq84 hv85⟩) rfl rfl
      (ffc (d := 115) (v := .bool (!decide (s82 = s73))) (hd_v rfl fun ρ hρ => ⟨rfl, opv_neS rfl rfl rfl ((hρ 97 (lmem rfl)).trans rfl) ((hρ 114 (lmem rfl)).trans rfl)⟩) rfl rfl
      ffn))))))))))))))))))) ?_
    refine lt_end ?_
    refine ago_condE  E43_34 rfl rfl (fun hb89 => ?_) (fun hb89 => ?_)
    · replace H := cnd_t H hb89
      refine ago_seqE E43_35 ?_
      refine ago_cut (fun ρ => ρ 0 = r_0 ∧ True) ⟨h0, trivial⟩ (fun ρ ⟨h0, _⟩ => ?_)
      refine ago_regE E43_36 (l := [0, 1, 2, 3]) rfl ?_
      refine lk (dt := some 116) R43_11_N rfl rfl rfl (opv_move rfl rfl h0) ?_
      obtain ⟨hp90, H⟩ := H
      refine lk (dt := some 117) R43_11_N rfl rfl rfl (ov_nck rfl rfl rfl hp90) ?_
      obtain ⟨b92, i93, p91, hp94, hv95, H⟩ := H
      refine lk (dt := some 118) R43_11_N rfl rfl rfl (ov_fldA rfl rfl underlying94 rfl sz3 (by decide) rfl hp94 rfl hv95) ?_
      obtain ⟨b97, i98, aw96, hp99, hw100, ho101, ha102, H⟩ := H
      refine lk (dt := none) R43_11_N rfl rfl rfl (ov_st rfl rfl rfl rfl rfl rfl sz3 hp99 hw100 ho101 ha102) ?_
      refine aops_nil ?_
      refine ago_seqE E43_37 ?_
      refine ago_regE E43_38 (l := [0]) rfl ?_
      refine lk (dt := some 2) R43_12_N rfl rfl rfl (opv_assign rfl rfl rfl) ?_
      refine aops_nil ?_
      exact ago_retE E43_39 (r := 0) (ares_1 rfl (oneT rfl)) rfl H
    · replace H := cnd_f H hb89
      refine ago_skipE E43_40 ?_
      refine ago_seqE E43_41 ?_
      refine ago_cut (fun ρ => ρ 0 = r_0 ∧ ρ 3 = .int .u64 n_3 ∧ ρ 4 = .int .i64 k_4 ∧ True) ⟨h0, h3, h4, trivial⟩ (fun ρ ⟨h0, h3, h4, _⟩ => ?_)
      refine ago_regE E43_42 (l := [0, 1, 2, 3, 4, 5, 6, 7, 8, 9]) rfl ?_
      refine lk (dt := some 119) R43_13_N rfl rfl rfl (opv_move rfl rfl h0) ?_
      obtain ⟨hp103, H⟩ := H
      refine lk (dt := some 120) R43_13_N rfl rfl rfl (ov_nck rfl rfl rfl hp103) ?_
      obtain ⟨b105, i106, p104, hp107, hv108, H⟩ := H
      refine lk (dt := some 121) R43_13_N rfl rfl rfl (ov_fldA rfl rfl underlying94 rfl sz3 (by decide) rfl hp107 rfl hv108) ?_
      obtain ⟨b109, i110, x112, hp111, hg113, H⟩ := H
      refine lk (dt := some 122) R43_13_N rfl rfl rfl (ov_ldI rfl underlying3 rfl rfl hp111 hg113) ?_
      refine lk (dt := some 123) R43_13_N rfl rfl rfl (opv_move rfl rfl h4) ?_
      refine lk (dt := some 124) R43_13_N rfl rfl rfl (opv_add rfl rfl rfl rfl rfl) ?_
      refine lk (dt := some 125) R43_13_N rfl rfl rfl (opv_add rfl rfl rfl rfl rfl) ?_
      obtain ⟨hp114, H⟩ := H
      refine lk (dt := some 126) R43_13_N rfl rfl rfl (ov_nck rfl rfl rfl hp114) ?_
      obtain ⟨b116, i117, p115, hp118, hv119, H⟩ := H
      refine lk (dt := some 127) R43_13_N rfl rfl rfl (ov_fldA rfl rfl underlying94 rfl sz3 (by decide) rfl hp118 rfl hv119) ?_
      obtain ⟨b121, i122, aw120, hp123, hw124, ho125, ha126, H⟩ := H
      refine lk (dt := none) R43_13_N rfl rfl rfl (ov_st rfl rfl rfl rfl rfl rfl sz3 hp123 hw124 ho125 ha126) ?_
      refine aops_nil ?_
      refine ago_seqE E43_43 ?_
      refine ago_regE E43_44 (l := [0, 1]) rfl ?_
      refine lk (dt := some 128) R43_14_N rfl rfl rfl (opv_move rfl rfl h3) ?_
      refine lk (dt := some 2) R43_14_N rfl rfl rfl (opv_assign rfl rfl rfl) ?_
      refine aops_nil ?_
      exact ago_retE E43_45 (r := n_3) (ares_1 rfl (oneT rfl)) rfl H
theorem S43_1_ok (Q : Int → AW → Prop) (E : List PanicEntry → AW → Prop)  : ∀ (n : Nat) (ρ : Env) (r_0 : Value) (n_3 : Int) (k_4 : Int) (i_5 : Int) (aw : AW) (h0 : ρ 0 = r_0) (h3 : ρ 3 = .int .u64 n_3) (h4 : ρ 4 = .int .i64 k_4) (h5 : ρ 5 = .int .i64 i_5), S43_1 Q E  n r_0 n_3 k_4 i_5 aw →
    AGo prog 129 [.code C43_21, .inLoop C43_21, .inBlock 0, .code C43_31] ρ [] aw (RR prog f43 129 sh43 Q E)
  | 0, _, _, _, _, _, _, _, _, _, _ => fun H => H.elim
  | n + 1, ρ, r_0, n_3, k_4, i_5, aw, h0, h3, h4, h5 => fun H => S43_1s_ok Q E  _ (S43_1_ok Q E  n) ρ r_0 n_3 k_4 i_5 aw h0 h3 h4 h5 H
theorem S43_0_ok (Q : Int → AW → Prop) (E : List PanicEntry → AW → Prop)  (ρ : Env) (r_0 : Value) (aw : AW) (h0 : ρ 0 = r_0) (H : S43_0 Q E  r_0 aw) :
    AGo prog 129 [.code C43_0] ρ [] aw (RR prog f43 129 sh43 Q E) := by
  unfold S43_0 at H
  refine ago_seqE E43_0 ?_
  refine ago_regE E43_1 (l := [0]) rfl ?_
  refine lk (dt := some 2) R43_0_N rfl rfl rfl (opv_assign rfl rfl rfl) ?_
  refine aops_nil ?_
  refine ago_seqE E43_2 ?_
  refine ago_seqE E43_3 ?_
  obtain ⟨hp127, H⟩ := H
  obtain ⟨b129, i130, p128, hp131, hv132, H⟩ := H
  obtain ⟨b133, i134, x136, hp135, hg137, H⟩ := H
  rcases Bool.eq_false_or_eq_true (decide (x136 < 0)) with hb138 | hb138
  · replace H := cnd_t H hb138
    refine ago_drawH (p := [0, 1, 2, 3, 4, 5, 6, 7, 8, 9, 10, 11, 12, 13, 14, 15, 16, 17, 18, 19, 20, 21, 22, 23, 24, 25, 26, 27, 28, 29, 30, 31, 32, 33, 34, 35, 36, 37, 38, 39, 40, 41, 42, 43, 44, 45, 46, 47, 48, 49, 50, 51, 52, 53]) (tl := []) (hv := [(0, r_0), (1, r_0), (2, p128), (3, Value.int .i64 x136), (4, Value.bool (decide (x136 < 0))), (5, Value.bool (decide (x136 < 0))), (6, undef), (7, undef), (8, undef), (9, undef), (10, undef), (11, undef), (12, undef), (13, undef), (14, undef), (15, undef), (16, Value.bool true), (17, Value.bool true), (18, undef), (19, undef), (20, undef), (21, undef), (22, undef), (23, undef), (24, undef), (25, undef), (26, undef), (27, undef), (28, undef), (29, Value.bool true), (30, Value.bool true), (31, undef), (32, undef), (33, undef), (34, undef), (35, undef), (36, undef), (37, undef), (38, undef), (39, undef), (40, undef), (41, undef), (42, undef), (43, undef), (44, undef), (45, undef), (46, undef), (47, undef), (48, undef), (49, undef), (50, undef), (51, undef), (52, undef), (53, Value.bool true)]) E43_4 mixed R43_1_N R43_1_O rfl (pv_cons rfl (pv_cons rfl (pv_cons rfl (pv_cons rfl (pv_cons rfl (pv_cons rfl (pv_cons rfl (pv_cons rfl (pv_cons rfl (pv_cons rfl (pv_cons rfl (pv_cons rfl (pv_cons rfl (pv_cons rfl (pv_cons rfl (pv_cons rfl (pv_cons rfl (pv_cons rfl (pv_cons rfl (pv_cons rfl (pv_cons rfl (pv_cons rfl (pv_cons rfl (pv_cons rfl (pv_cons rfl (pv_cons rfl (pv_cons rfl (pv_cons rfl (pv_cons rfl (pv_cons rfl (pv_cons rfl (pv_cons rfl (pv_cons rfl (pv_cons rfl (pv_cons rfl (pv_cons rfl (pv_cons rfl (pv_cons rfl (pv_cons rfl (pv_cons rfl (pv_cons rfl (pv_cons rfl (pv_cons rfl (pv_cons rfl (pv_cons rfl (pv_cons rfl (pv_cons rfl (pv_cons rfl (pv_cons rfl (pv_cons rfl (pv_cons rfl (pv_cons rfl (pv_cons rfl (pv_cons rfl (pv_nil _)))))))))))))))))))))))))))))))))))))))))))))))))))))))
      (ffc (d := 6) (v := r_0) (hd_v rfl fun ρ hρ => ⟨rfl, opv_move rfl rfl ((hρ 0 (lmem rfl)).trans h0)⟩) rfl rfl
      (ffc (d := 7) (v := r_0) (hd_v rfl fun ρ hρ => ⟨rfl, ov_nck rfl rfl ((hρ 6 (lmem rfl)).trans rfl) hp127⟩) rfl rfl
      (ffc (d := 8) (v := p128) (hd_v rfl fun ρ hρ => ⟨rfl, ov_fldA rfl rfl underlying94 rfl sz3 (by decide) ((hρ 7 (lmem rfl)).trans rfl) hp131 rfl hv132⟩) rfl rfl
      (ffc (d := 9) (v := .int .i64 x136) (hd_v rfl fun ρ hρ => ⟨rfl, ov_ldI rfl underlying3 rfl ((hρ 8 (lmem rfl)).trans rfl) hp135 hg137⟩) rfl rfl
      (ffc (d := 10) (v := .bool (decide (x136 < 0))) (hd_v rfl fun ρ hρ => ⟨rfl, opv_lt rfl rfl rfl ((hρ 9 (lmem rfl)).trans rfl) rfl⟩) rfl rfl
      (ffc (d := 11) (v := .bool (decide (x136 < 0))) (hd_v rfl fun ρ hρ => ⟨rfl, opv_move rfl rfl ((hρ 10 (lmem rfl)).trans rfl)⟩) rfl rfl
      (ffc (d := 12) (v := undef) (hd_s rfl (fun ρ hρ => ⟨_, rfl, .inl ⟨_, ((hρ 11 (lmem rfl)).trans rfl), gq hb138 rfl⟩⟩) rfl) rfl rfl
      (ffc (d := 13) (v := undef) (hd_s rfl (fun ρ hρ => ⟨_, rfl, .inl ⟨_, ((hρ 11 (lmem rfl)).trans rfl), gq hb138 rfl⟩⟩) rfl) rfl rfl
      (ffc (d := 14) (v := undef) (hd_s rfl (fun ρ hρ => ⟨_, rfl, .inl ⟨_, ((hρ 11 (lmem rfl)).trans rfl), gq hb138 rfl⟩⟩) rfl) rfl rfl
      (ffc (d := 15) (v := undef) (hd_s rfl (fun ρ hρ => ⟨_, rfl, .inl ⟨_, ((hρ 11 (lmem rfl)).trans rfl), gq hb138 rfl⟩⟩) rfl) rfl rfl
      (ffc (d := 16) (v := undef) (hd_s rfl (fun ρ hρ => ⟨_, rfl, .inl ⟨_, ((hρ 11 (lmem rfl)).trans rfl), gq hb138 rfl⟩⟩) rfl) rfl rfl
      (ffc (d := 17) (v := undef) (hd_s rfl (fun ρ hρ => ⟨_, rfl, .inl ⟨_, ((hρ 11 (lmem rfl)).trans rfl), gq hb138 rfl⟩⟩) rfl) rfl rfl
      (ffc (d := 18) (v := undef) (hd_s rfl (fun ρ hρ => ⟨_, rfl, .inl ⟨_, ((hρ 11 (lmem rfl)).trans rfl), gq hb138 rfl⟩⟩) rfl) rfl rfl
      (ffc (d := 19) (v := undef) (hd_s rfl (fun ρ hρ => ⟨_, rfl, .inl ⟨_, ((hρ 11 (lmem rfl)).trans rfl), gq hb138 rfl⟩⟩) rfl) rfl rfl
      (ffc (d := 20) (v := undef) (hd_s rfl (fun ρ hρ => ⟨_, rfl, .inl ⟨_, ((hρ 11 (lmem rfl)).trans rfl), gq hb138 rfl⟩⟩) rfl) rfl rfl
      (ffc (d := 21) (v := undef) (hd_s rfl (fun ρ hρ => ⟨_, rfl, .inl ⟨_, ((hρ 11 (lmem rfl)).trans rfl), gq hb138 rfl⟩⟩) rfl) rfl rfl
      (ffc (d := 22) (v := .bool true) (hd_v rfl fun ρ hρ => ⟨rfl, ov_pickT rfl rfl rfl rfl ((hρ 11 (lmem rfl)).trans rfl) hb138 rfl⟩) rfl rfl
      (ffc (d := 23) (v := .bool true) (hd_v rfl fun ρ hρ => ⟨rfl, opv_move rfl rfl ((hρ 22 (lmem rfl)).trans rfl)⟩) rfl rfl
      (ffc (d := 24) (v := undef) (hd_s rfl (fun ρ hρ => ⟨_, rfl, .inl ⟨_, ((hρ 23 (lmem rfl)).trans rfl), gq rfl rfl⟩⟩) rfl) rfl rfl
      (ffc (d := 25) (v := undef) (hd_s rfl (fun ρ hρ => ⟨_, rfl, .inl ⟨_, ((hρ 23 (lmem rfl)).trans rfl), gq rfl rfl⟩⟩) rfl) rfl rfl
      (ffc (d := 26) (v := undef) (hd_s rfl (fun ρ hρ => ⟨_, rfl, .inl ⟨_, ((hρ 23 (lmem rfl)).trans rfl), gq rfl rfl⟩⟩) rfl) rfl rfl
      (ffc (d := 27) (v := undef) (hd_s rfl (fun ρ hρ => ⟨_, rfl, .inl ⟨_, ((hρ 23 (lmem rfl)).trans rfl), gq rfl rfl⟩⟩) rfl) rfl rfl
      (ffc (d := 28) (v := undef) (hd_s rfl (fun ρ hρ => ⟨_, rfl, .inl ⟨_, ((hρ 23 (lmem rfl)).trans rfl), gq rfl rfl⟩⟩) rfl) rfl rfl
      (ffc (d := 29) (v := undef) (hd_s rfl (fun ρ hρ => ⟨_, rfl, .inl ⟨_, ((hρ 23 (lmem rfl)).trans rfl), gq rfl rfl⟩⟩) rfl) rfl rfl
      (ffc (d := 30) (v := undef) (hd_s rfl (fun ρ hρ => ⟨_, rfl, .inl ⟨_, ((hρ 23 (lmem rfl)).trans rfl), gq rfl rfl⟩⟩) rfl) rfl rfl
      (ffc (d := 31) (v := undef) (hd_s rfl (fun ρ hρ => ⟨_, rfl, .inl ⟨_, ((hρ 23 (lmem rfl)).trans rfl), gq rfl rfl⟩⟩) rfl) rfl rfl
      (ffc (d := 32) (v := undef) (hd_s rfl (fun ρ hρ => ⟨_, rfl, .inl ⟨_, ((hρ 23 (lmem rfl)).trans rfl), gq rfl rfl⟩⟩) rfl) rfl rfl
      (ffc (d := 33) (v := undef) (hd_s rfl (fun ρ hρ => ⟨_, rfl, .inl ⟨_, ((hρ 23 (lmem rfl)).trans rfl), gq rfl rfl⟩⟩) rfl) rfl rfl
      (ffc (d := 34) (v := undef) (hd_s rfl (fun ρ hρ => ⟨_, rfl, .inl ⟨_, ((hρ 23 (lmem rfl)).trans rfl), gq rfl rfl⟩⟩) rfl) rfl rfl
      (ffc (d := 35) (v := .bool true) (hd_v rfl fun ρ hρ => ⟨rfl, ov_pickT rfl rfl rfl rfl ((hρ 23 (lmem rfl)).trans rfl) rfl rfl⟩) rfl rfl
      (ffc (d := 36) (v := .bool true) (hd_v rfl fun ρ hρ => ⟨rfl, opv_move rfl rfl ((hρ 35 (lmem rfl)).trans rfl)⟩) rfl rfl
      (ffc (d := 37) (v := undef) (hd_s rfl (fun ρ hρ => ⟨_, rfl, .inl ⟨_, ((hρ 36 (lmem rfl)).trans rfl), gq rfl rfl⟩⟩) rfl) rfl rfl
      (ffc (d := 38) (v := undef) (hd_s rfl (fun ρ hρ => ⟨_, rfl, .inl ⟨_, ((hρ 36 (lmem rfl)).trans rfl), gq rfl rfl⟩⟩) rfl) rfl rfl
      (ffc (d := 39) (v := undef) (hd_s rfl (fun ρ hρ => ⟨_, rfl, .inl ⟨_, ((hρ 36 (lmem rfl)).trans rfl), gq rfl rfl⟩⟩) rfl) rfl rfl
      (ffc (d := 40) (v := undef) (hd_s rfl (fun ρ hρ => ⟨_, rfl, .inl ⟨_, ((hρ 36 (lmem rfl)).trans rfl), gq rfl rfl⟩⟩) rfl) rfl rfl
      (ffc (d := 41) (v := undef) (hd_s rfl (fun ρ hρ => ⟨_, rfl, .inl ⟨_, ((hρ 36 (lmem rfl)).trans rfl), gq rfl rfl⟩⟩) rfl) rfl rfl
      (ffc (d := 42) (v := undef) (hd_s rfl (fun ρ hρ => ⟨_, rfl, .inl ⟨_, ((hρ 36 (lmem rfl)).trans rfl), gq rfl rfl⟩⟩) rfl) rfl rfl
      (ffc (d := 43) (v := undef) (hd_s rfl (fun ρ hρ => ⟨_, rfl, .inl ⟨_, ((hρ 36 (lmem rfl)).trans rfl), gq rfl rfl⟩⟩) rfl) rfl rfl
      (ffc (d := 44) (v := undef) (hd_s rfl (fun ρ hρ => ⟨_, rfl, .inl ⟨_, ((hρ 36 (lmem rfl)).trans rfl), gq rfl rfl⟩⟩) rfl) rfl rfl
      (ffc (d := 45) (v := undef) (hd_s rfl (fun ρ hρ => ⟨_, rfl, .inl ⟨_, ((hρ 36 (lmem rfl)).trans rfl), gq rfl rfl⟩⟩) rfl) rfl rfl
      (ffc (d := 46) (v := undef) (hd_s rfl (fun ρ hρ => ⟨_, rfl, .inl ⟨_, ((hρ 36 (lmem rfl)).trans rfl), gq rfl rfl⟩⟩) rfl) rfl rfl
      (ffc (d := 47) (v := undef) (hd_s rfl (fun ρ hρ => ⟨_, rfl, .inl ⟨_, ((hρ 36 (lmem rfl)).trans rfl), gq rfl rfl⟩⟩) rfl) rfl rfl
      (ffc (d := 48) (v := undef) (hd_s rfl (fun ρ hρ => ⟨_, rfl, .inl ⟨_, ((hρ 36 (lmem rfl)).trans rfl), gq rfl rfl⟩⟩) rfl) rfl rfl
      (ffc (d := 49) (v := undef) (hd_s rfl (fun ρ hρ => ⟨_, rfl, .inl ⟨_, ((hρ 36 (lmem rfl)).trans rfl), gq rfl rfl⟩⟩) rfl) rfl rfl
      (ffc (d := 50) (v := undef) (hd_s rfl (fun ρ hρ => ⟨_, rfl, .inl ⟨_, ((hρ 36 (lmem rfl)).trans rfl), gq rfl rfl⟩⟩) rfl) rfl rfl
      (ffc (d := 51) (v := undef) (hd_s rfl (fun ρ hρ => ⟨_, rfl, .inl ⟨_, ((hρ 36 (lmem rfl)).trans rfl), gq rfl rfl⟩⟩) rfl) rfl rfl
      (ffc (d := 52) (v := undef) (hd_s rfl (fun ρ hρ => ⟨_, rfl, .inl ⟨_, ((hρ 36 (lmem rfl)).trans rfl), gq rfl rfl⟩⟩) rfl) rfl rfl
      (ffc (d := 53) (v := undef) (hd_s rfl (fun ρ hρ => ⟨_, rfl, .inl ⟨_, ((hρ 36 (lmem rfl)).trans rfl), gq rfl rfl⟩⟩) rfl) rfl rfl
      (ffc (d := 54) (v := undef) (hd_s rfl (fun ρ hρ => ⟨_, rfl, .inl ⟨_, ((hρ 36 (lmem rfl)).trans rfl), gq rfl rfl⟩⟩) rfl) rfl rfl
      (ffc (d := 55) (v := undef) (hd_s rfl (fun ρ hρ => ⟨_, rfl, .inl ⟨_, ((hρ 36 (lmem rfl)).trans rfl), gq rfl rfl⟩⟩) rfl) rfl rfl
      (ffc (d := 56) (v := undef) (hd_s rfl (fun ρ hρ => ⟨_, rfl, .inl ⟨_, ((hρ 36 (lmem rfl)).trans rfl), gq rfl rfl⟩⟩) rfl) rfl rfl
      (ffc (d := 57) (v := undef) (hd_s rfl (fun ρ hρ => ⟨_, rfl, .inl ⟨_, ((hρ 36 (lmem rfl)).trans rfl), gq rfl rfl⟩⟩) rfl) rfl rfl
      (ffc (d := 58) (v := undef) (hd_s rfl (fun ρ hρ => ⟨_, rfl, .inl ⟨_, ((hρ 36 (lmem rfl)).trans rfl), gq rfl rfl⟩⟩) rfl) rfl rfl
      (ffc (d := 59) (v := .bool true) (hd_v rfl fun ρ hρ => ⟨rfl, ov_pickT rfl rfl rfl rfl ((hρ 36 (lmem rfl)).trans rfl) rfl rfl⟩) rfl rfl
      ffn)))))))))))))))))))))))))))))))))))))))))))))))))))))) ?_
    refine lt_end ?_
    refine ago_condE  E43_5 rfl rfl (fun h => ?_) (fun h => tf h)
    refine ago_seqE E43_6 ?_
    refine ago_cut (fun ρ => ρ 0 = r_0 ∧ True) ⟨h0, trivial⟩ (fun ρ ⟨h0, _⟩ => ?_)
    refine ago_regE E43_7 (l := [0, 1, 2, 3]) rfl ?_
    refine lk (dt := some 60) R43_2_N rfl rfl rfl (opv_move rfl rfl h0) ?_
    obtain ⟨hp140, H⟩ := H
    refine lk (dt := some 61) R43_2_N rfl rfl rfl (ov_nck rfl rfl rfl hp140) ?_
    obtain ⟨b142, i143, p141, hp144, hv145, H⟩ := H
    refine lk (dt := some 62) R43_2_N rfl rfl rfl (ov_fldA rfl rfl underlying94 rfl sz3 (by decide) rfl hp144 rfl hv145) ?_
    obtain ⟨b147, i148, aw146, hp149, hw150, ho151, ha152, H⟩ := H
    refine lk (dt := none) R43_2_N rfl rfl rfl (ov_st rfl rfl rfl rfl rfl rfl sz3 hp149 hw150 ho151 ha152) ?_
    refine aops_nil ?_
    refine ago_seqE E43_8 ?_
    refine ago_regE E43_9 (l := [0]) rfl ?_
    refine lk (dt := some 2) R43_3_N rfl rfl rfl (opv_assign rfl rfl rfl) ?_
    refine aops_nil ?_
    exact ago_retE E43_10 (r := 0) (ares_1 rfl (oneT rfl)) rfl H
  · replace H := cnd_f H hb138
    obtain ⟨hp153, H⟩ := H
    obtain ⟨b155, i156, p154, hp157, hv158, H⟩ := H
    obtain ⟨b159, i160, x162, hp161, hg163, H⟩ := H
    obtain ⟨hp164, H⟩ := H
    obtain ⟨b166, i167, p165, hp168, hv169, H⟩ := H
    obtain ⟨b170, i171, x173, hp172, hg174, H⟩ := H
    obtain ⟨q176, l177, c178, n175, hv179, hn180, H⟩ := H
    rcases Bool.eq_false_or_eq_true (decide (n175 ≤ x162)) with hb181 | hb181
    · replace H := cnd_t H hb181
      refine ago_drawH (p := [0, 1, 2, 3, 4, 5, 6, 7, 8, 9, 10, 11, 12, 13, 14, 15, 16, 17, 18, 19, 20, 21, 22, 23, 24, 25, 26, 27, 28, 29, 30, 31, 32, 33, 34, 35, 36, 37, 38, 39, 40, 41, 42, 43, 44, 45, 46, 47, 48, 49, 50, 51, 52, 53]) (tl := []) (hv := [(0, r_0), (1, r_0), (2, p128), (3, Value.int .i64 x136), (4, Value.bool (decide (x136 < 0))), (5, Value.bool (decide (x136 < 0))), (6, r_0), (7, r_0), (8, p154), (9, Value.int .i64 x162), (10, r_0), (11, r_0), (12, p165), (13, x173), (14, Value.int .i64 n175), (15, Value.bool (decide (n175 ≤ x162))), (16, Value.bool (decide (n175 ≤ x162))), (17, Value.bool (decide (n175 ≤ x162))), (18, undef), (19, undef), (20, undef), (21, undef), (22, undef), (23, undef), (24, undef), (25, undef), (26, undef), (27, undef), (28, undef), (29, Value.bool true), (30, Value.bool true), (31, undef), (32, undef), (33, undef), (34, undef), (35, undef), (36, undef), (37, undef), (38, undef), (39, undef), (40, undef), (41, undef), (42, undef), (43, undef), (44, undef), (45, undef), (46, undef), (47, undef), (48, undef), (49, undef), (50, undef), (51, undef), (52, undef), (53, Value.bool true)]) E43_4 mixed R43_1_N R43_1_O rfl (pv_cons rfl (pv_cons rfl (pv_cons rfl (pv_cons rfl (pv_cons rfl (pv_cons rfl (pv_cons rfl (pv_cons rfl (pv_cons rfl (pv_cons rfl (pv_cons rfl (pv_cons rfl (pv_cons rfl (pv_cons rfl (pv_cons rfl (pv_cons rfl (pv_cons rfl (pv_cons rfl (pv_cons rfl (pv_cons rfl (pv_cons rfl (pv_cons rfl (pv_cons rfl (pv_cons rfl (pv_cons rfl (pv_cons rfl (pv_cons rfl (pv_cons rfl (pv_cons rfl (pv_cons rfl (pv_cons rfl (pv_cons rfl (pv_cons rfl (pv_cons rfl (pv_cons rfl (pv_cons rfl (pv_cons rfl (pv_cons rfl (pv_cons rfl (pv_cons rfl (pv_cons rfl (pv_cons rfl (pv_cons rfl (pv_cons rfl (pv_cons rfl (pv_cons rfl (pv_cons rfl (pv_cons rfl (pv_cons rfl (pv_cons rfl (pv_cons rfl (pv_cons rfl (pv_cons rfl (pv_cons rfl (pv_nil _)))))))))))))))))))))))))))))))))))))))))))))))))))))))
        (ffc (d := 6) (v := r_0) (hd_v rfl fun ρ hρ => ⟨rfl, opv_move rfl rfl ((hρ 0 (lmem rfl)).trans h0)⟩) rfl rfl
        (ffc (d := 7) (v := r_0) (hd_v rfl fun ρ hρ => ⟨rfl, ov_nck rfl rfl ((hρ 6 (lmem rfl)).trans rfl) hp127⟩) rfl rfl
        (ffc (d := 8) (v := p128) (hd_v rfl fun ρ hρ => ⟨rfl, ov_fldA rfl rfl underlying94 rfl sz3 (by decide) ((hρ 7 (lmem rfl)).trans rfl) hp131 rfl hv132⟩) rfl rfl
        (ffc (d := 9) (v := .int .i64 x136) (hd_v rfl fun ρ hρ => ⟨rfl, ov_ldI rfl underlying3 rfl ((hρ 8 (lmem rfl)).trans rfl) hp135 hg137⟩) rfl rfl
        (ffc (d := 10) (v := .bool (decide (x136 < 0))) (hd_v rfl fun ρ hρ => ⟨rfl, opv_lt rfl rfl rfl ((hρ 9 (lmem rfl)).trans rfl) rfl⟩) rfl rfl
        (ffc (d := 11) (v := .bool (decide (x136 < 0))) (hd_v rfl fun ρ hρ => ⟨rfl, opv_move rfl rfl ((hρ 10 (lmem rfl)).trans rfl)⟩) rfl rfl
        (ffc (d := 12) (v := r_0) (hd_v rfl fun ρ hρ => ⟨⟨_, rfl, .inl ⟨_, ((hρ 11 (lmem rfl)).trans rfl), gq hb138 rfl⟩⟩, opv_move rfl rfl ((hρ 0 (lmem rfl)).trans h0)⟩) rfl rfl
        (ffc (d := 13) (v := r_0) (hd_v rfl fun ρ hρ => ⟨⟨_, rfl, .inl ⟨_, ((hρ 11 (lmem rfl)).trans rfl), gq hb138 rfl⟩⟩, ov_nck rfl rfl ((hρ 12 (lmem rfl)).trans rfl) hp153⟩) rfl rfl
        (ffc (d := 14) (v := p154) (hd_v rfl fun ρ hρ => ⟨⟨_, rfl, .inl ⟨_, ((hρ 11 (lmem rfl)).trans rfl), gq hb138 rfl⟩⟩, ov_fldA rfl rfl underlying94 rfl sz3 (by decide) ((hρ 13 (lmem rfl)).trans rfl) hp157 rfl hv158⟩) rfl rfl
        (ffc (d := 15) (v := .int .i64 x162) (hd_v rfl fun ρ hρ => ⟨⟨_, rfl, .inl ⟨_, ((hρ 11 (lmem rfl)).trans rfl), gq hb138 rfl⟩⟩, ov_ldI rfl underlying3 rfl ((hρ 14 (lmem rfl)).trans rfl) hp161 hg163⟩) rfl rfl
        (ffc (d := 16) (v := r_0) (hd_v rfl fun ρ hρ => ⟨⟨_, rfl, .inl ⟨_, ((hρ 11 (lmem rfl)).trans rfl), gq hb138 rfl⟩⟩, opv_move rfl rfl ((hρ 0 (lmem rfl)).trans h0)⟩) rfl rfl
        (ffc (d := 17) (v := r_0) (hd_v rfl fun ρ hρ => ⟨⟨_, rfl, .inl ⟨_, ((hρ 11 (lmem rfl)).trans rfl), gq hb138 rfl⟩⟩, ov_nck rfl rfl ((hρ 16 (lmem rfl)).trans rfl) hp164⟩) rfl rfl
        (ffc (d := 18) (v := p165) (hd_v rfl fun ρ hρ => ⟨⟨_, rfl, .inl ⟨_, ((hρ 11 (lmem rfl)).trans rfl), gq hb138 rfl⟩⟩, ov_fldA rfl rfl underlying94 rfl sz25 (by decide) ((hρ 17 (lmem rfl)).trans rfl) hp168 rfl hv169⟩) rfl rfl
        (ffc (d := 19) (v := x173) (hd_v rfl fun ρ hρ => ⟨⟨_, rfl, .inl ⟨_, ((hρ 11 (lmem rfl)).trans rfl), gq hb138 rfl⟩⟩, ov_ldV rfl underlying25 rfl rfl ((hρ 18 (lmem rfl)).trans rfl) hp172 hg174⟩) rfl rfl
        (ffc (d := 20) (v := .int .i64 n175) (hd_v rfl fun ρ hρ => ⟨⟨_, rfl, .inl ⟨_, ((hρ 11 (lmem rfl)).trans rfl), gq hb138 rfl⟩⟩, ov_len rfl rfl rfl underlying25 ((hρ 19 (lmem rfl)).trans rfl) hv179 hn180⟩) rfl rfl
        (ffc (d := 21) (v := .bool (decide (n175 ≤ x162))) (hd_v rfl fun ρ hρ => ⟨⟨_, rfl, .inl ⟨_, ((hρ 11 (lmem rfl)).trans rfl), gq hb138 rfl⟩⟩, opv_ge rfl rfl rfl ((hρ 15 (lmem rfl)).trans rfl) ((hρ 20 (lmem rfl)).trans rfl)⟩) rfl rfl
        (ffc (d := 22) (v := .bool (decide (n175 ≤ x162))) (hd_v rfl fun ρ hρ => ⟨rfl, ov_pickF rfl rfl rfl rfl ((hρ 11 (lmem rfl)).trans rfl) hb138 ((hρ 21 (lmem rfl)).trans rfl)⟩) rfl rfl
        (ffc (d := 23) (v := .bool (decide (n175 ≤ x162))) (hd_v rfl fun ρ hρ => ⟨rfl, opv_move rfl rfl ((hρ 22 (lmem rfl)).trans rfl)⟩) rfl rfl
        (ffc (d := 24) (v := undef) (hd_s rfl (fun ρ hρ => ⟨_, rfl, .inl ⟨_, ((hρ 23 (lmem rfl)).trans rfl), gq hb181 rfl⟩⟩) rfl) rfl rfl
        (ffc (d := 25) (v := undef) (hd_s rfl (fun ρ hρ => ⟨_, rfl, .inl ⟨_, ((hρ 23 (lmem rfl)).trans rfl), gq hb181 rfl⟩⟩) rfl) rfl rfl
        (ffc (d := 26) (v := undef) (hd_s rfl (fun ρ hρ => ⟨_, rfl, .inl ⟨_, ((hρ 23 (lmem rfl)).trans rfl), gq hb181 rfl⟩⟩) rfl) rfl rfl
        (ffc (d := 27) (v := undef) (hd_s rfl (fun ρ hρ => ⟨_, rfl, .inl ⟨_, ((hρ 23 (lmem rfl)).trans rfl), gq hb181 rfl⟩⟩) rfl) rfl rfl
        (ffc (d := 28) (v := undef) (hd_s rfl (fun ρ hρ => ⟨_, rfl, .inl ⟨_, ((hρ 23 (lmem rfl)).trans rfl), gq hb181 rfl⟩⟩) rfl) rfl rfl
        (ffc (d := 29) (v := undef) (hd_s rfl (fun ρ hρ => ⟨_, rfl, .inl ⟨_, ((hρ 23 (lmem rfl)).trans rfl), gq hb181 rfl⟩⟩) rfl) rfl rfl
        (ffc (d := 30) (v := undef) (hd_s rfl (fun ρ hρ => ⟨_, rfl, .inl ⟨_, ((hρ 23 (lmem rfl)).trans rfl), gq hb181 rfl⟩⟩) rfl) rfl rfl
        (ffc (d := 31) (v := undef) (hd_s rfl (fun ρ hρ => ⟨_, rfl, .inl ⟨_, ((hρ 23 (lmem rfl)).trans rfl), gq hb181 rfl⟩⟩) rfl) rfl rfl
        (ffc (d := 32) (v := undef) (hd_s rfl (fun ρ hρ => ⟨_, rfl, .inl ⟨_, ((hρ 23 (lmem rfl)).trans rfl), gq hb181 rfl⟩⟩) rfl) rfl rfl
        (ffc (d := 33) (v := undef) (hd_s rfl (fun ρ hρ => ⟨_, rfl, .inl ⟨_, ((hρ 23 (lmem rfl)).trans rfl), gq hb181 rfl⟩⟩) rfl) rfl rfl
        (ffc (d := 34) (v := undef) (hd_s rfl (fun ρ hρ => ⟨_, rfl, .inl ⟨_, ((hρ 23 (lmem rfl)).trans rfl), gq hb181 rfl⟩⟩) rfl) rfl rfl
        (ffc (d := 35) (v := .bool true) (hd_v rfl fun ρ hρ => ⟨rfl, ov_pickT rfl rfl rfl rfl ((hρ 23 (lmem rfl)).trans rfl) hb181 rfl⟩) rfl rfl
        (ffc (d := 36) (v := .bool true) (hd_v rfl fun ρ hρ => ⟨rfl, opv_move rfl rfl ((hρ 35 (lmem rfl)).trans rfl)⟩) rfl rfl
        (ffc (d := 37) (v := undef) (hd_s rfl (fun ρ hρ => ⟨_, rfl, .inl ⟨_, ((hρ 36 (lmem rfl)).trans rfl), gq rfl rfl⟩⟩) rfl) rfl rfl
        (ffc (d := 38) (v := undef) (hd_s rfl (fun ρ hρ => ⟨_, rfl, .inl ⟨_, ((hρ 36 (lmem rfl)).trans rfl), gq rfl rfl⟩⟩) rfl) rfl rfl
        (ffc (d := 39) (v := undef) (hd_s rfl (fun ρ hρ => ⟨_, rfl, .inl ⟨_, ((hρ 36 (lmem rfl)).trans rfl), gq rfl rfl⟩⟩) rfl) rfl rfl
        (ffc (d := 40) (v := undef) (hd_s rfl (fun ρ hρ => ⟨_, rfl, .inl ⟨_, ((hρ 36 (lmem rfl)).trans rfl), gq rfl rfl⟩⟩) rfl) rfl rfl
        (ffc (d := 41) (v := undef) (hd_s rfl (fun ρ hρ => ⟨_, rfl, .inl ⟨_, ((hρ 36 (lmem rfl)).trans rfl), gq rfl rfl⟩⟩) rfl) rfl rfl
        (ffc (d := 42) (v := undef) (hd_s rfl (fun ρ hρ => ⟨_, rfl, .inl ⟨_, ((hρ 36 (lmem rfl)).trans rfl), gq rfl rfl⟩⟩) rfl) rfl rfl
        (ffc (d := 43) (v := undef) (hd_s rfl (fun ρ hρ => ⟨_, rfl, .inl ⟨_, ((hρ 36 (lmem rfl)).trans rfl), gq rfl rfl⟩⟩) rfl) rfl rfl
        (ffc (d := 44) (v := undef) (hd_s rfl (fun ρ hρ => ⟨_, rfl, .inl ⟨_, ((hρ 36 (lmem rfl)).trans rfl), gq rfl rfl⟩⟩) rfl) rfl rfl
        (ffc (d := 45) (v := undef) (hd_s rfl (fun ρ hρ => ⟨_, rfl, .inl ⟨_, ((hρ 36 (lmem rfl)).trans rfl), gq rfl rfl⟩⟩) rfl) rfl rfl
        (ffc (d := 46) (v := undef) (hd_s rfl (fun ρ hρ => ⟨_, rfl, .inl ⟨_, ((hρ 36 (lmem rfl)).trans rfl), gq rfl rfl⟩⟩) rfl) rfl rfl
        (ffc (d := 47) (v := undef) (hd_s rfl (fun ρ hρ => ⟨_, rfl, .inl ⟨_, ((hρ 36 (lmem rfl)).trans rfl), gq rfl rfl⟩⟩) rfl) rfl rfl
        (ffc (d := 48) (v := undef) (hd_s rfl (fun ρ hρ => ⟨_, rfl, .inl ⟨_, ((hρ 36 (lmem rfl)).trans rfl), gq rfl rfl⟩⟩) rfl) rfl rfl
        (ffc (d := 49) (v := undef) (hd_s rfl (fun ρ hρ => ⟨_, rfl, .inl ⟨_, ((hρ 36 (lmem rfl)).trans rfl), gq rfl rfl⟩⟩) rfl) rfl rfl
        (ffc (d := 50) (v := undef) (hd_s rfl (fun ρ hρ => ⟨_, rfl, .inl ⟨_, ((hρ 36 (lmem rfl)).trans rfl), gq rfl rfl⟩⟩) rfl) rfl rfl
        (ffc (d := 51) (v := undef) (hd_s rfl (fun ρ hρ => ⟨_, rfl, .inl ⟨_, ((hρ 36 (lmem rfl)).trans rfl), gq rfl rfl⟩⟩) rfl) rfl rfl
        (ffc (d := 52) (v := undef) (hd_s rfl (fun ρ hρ => ⟨_, rfl, .inl ⟨_, ((hρ 36 (lmem rfl)).trans rfl), gq rfl rfl⟩⟩) rfl) rfl rfl
        (ffc (d := 53) (v := undef) (hd_s rfl (fun ρ hρ => ⟨_, rfl, .inl ⟨_, ((hρ 36 (lmem rfl)).trans rfl), gq rfl rfl⟩⟩) rfl) rfl rfl
        (ffc (d := 54) (v := undef) (hd_s rfl (fun ρ hρ => ⟨_, rfl, .inl ⟨_, ((hρ 36 (lmem rfl)).trans rfl), gq rfl rfl⟩⟩) rfl) rfl rfl
        (ffc (d := 55) (v := undef) (hd_s rfl (fun ρ hρ => ⟨_, rfl, .inl ⟨_, ((hρ 36 (lmem rfl)).trans rfl), gq rfl rfl⟩⟩) rfl) rfl rfl
        (ffc (d := 56) (v := undef) (hd_s rfl (fun ρ hρ => ⟨_, rfl, .inl ⟨_, ((hρ 36 (lmem rfl)).trans rfl), gq rfl rfl⟩⟩) rfl) rfl rfl
        (ffc (d := 57) (v := undef) (hd_s rfl (fun ρ hρ => ⟨_, rfl, .inl ⟨_, ((hρ 36 (lmem rfl)).trans rfl), gq rfl rfl⟩⟩) rfl) rfl rfl
        (ffc (d := 58) (v := undef) (hd_s rfl (fun ρ hρ => ⟨_, rfl, .inl ⟨_, ((hρ 36 (lmem rfl)).trans rfl), gq rfl rfl⟩⟩) rfl) rfl rfl
        (ffc (d := 59) (v := .bool true) (hd_v rfl fun ρ hρ => ⟨rfl, ov_pickT rfl rfl rfl rfl ((hρ 36 (lmem rfl)).trans rfl) rfl rfl⟩) rfl rfl
        ffn)))))))))))))))))))))))))))))))))))))))))))))))))))))) ?_
      refine lt_end ?_
      refine ago_condE  E43_5 rfl rfl (fun h => ?_) (fun h => tf h)
      refine ago_seqE E43_6 ?_
      refine ago_cut (fun ρ => ρ 0 = r_0 ∧ True) ⟨h0, trivial⟩ (fun ρ ⟨h0, _⟩ => ?_)
      refine ago_regE E43_7 (l := [0, 1, 2, 3]) rfl ?_
      refine lk (dt := some 60) R43_2_N rfl rfl rfl (opv_move rfl rfl h0) ?_
      obtain ⟨hp183, H⟩ := H
      refine lk (dt := some 61) R43_2_N rfl rfl rfl (ov_nck rfl rfl rfl hp183) ?_
      obtain ⟨b185, i186, p184, hp187, hv188, H⟩ := H
      refine lk (dt := some 62) R43_2_N rfl rfl rfl (ov_fldA rfl rfl underlying94 rfl sz3 (by decide) rfl hp187 rfl hv188) ?_
      obtain ⟨b190, i191, aw189, hp192, hw193, ho194, ha195, H⟩ := H
      refine lk (dt := none) R43_2_N rfl rfl rfl (ov_st rfl rfl rfl rfl rfl rfl sz3 hp192 hw193 ho194 ha195) ?_
      refine aops_nil ?_
      refine ago_seqE E43_8 ?_
      refine ago_regE E43_9 (l := [0]) rfl ?_
      refine lk (dt := some 2) R43_3_N rfl rfl rfl (opv_assign rfl rfl rfl) ?_
      refine aops_nil ?_
      exact ago_retE E43_10 (r := 0) (ares_1 rfl (oneT rfl)) rfl H
    · replace H := cnd_f H hb181
      obtain ⟨hp196, H⟩ := H
      obtain ⟨b198, i199, p197, hp200, hv201, H⟩ := H
      obtain ⟨b202, i203, x205, hp204, hg206, H⟩ := H
      obtain ⟨hp207, H⟩ := H
      obtain ⟨b209, i210, p208, hp211, hv212, H⟩ := H
      obtain ⟨b213, i214, x216, hp215, hg217, H⟩ := H
      obtain ⟨b219, i220, l221, c222, p218, hp223, h0224, hj225, hv226, H⟩ := H
      obtain ⟨b227, i228, x230, hp229, hg231, H⟩ := H
      rcases Bool.eq_false_or_eq_true (decide (8 < x230)) with hb232 | hb232
      · replace H := cnd_t H hb232
        refine ago_drawH (p := [0, 1, 2, 3, 4, 5, 6, 7, 8, 9, 10, 11, 12, 13, 14, 15, 16, 17, 18, 19, 20, 21, 22, 23, 24, 25, 26, 27, 28, 29, 30, 31, 32, 33, 34, 35, 36, 37, 38, 39, 40, 41, 42, 43, 44, 45, 46, 47, 48, 49, 50, 51, 52, 53]) (tl := []) (hv := [(0, r_0), (1, r_0), (2, p128), (3, Value.int .i64 x136), (4, Value.bool (decide (x136 < 0))), (5, Value.bool (decide (x136 < 0))), (6, r_0), (7, r_0), (8, p154), (9, Value.int .i64 x162), (10, r_0), (11, r_0), (12, p165), (13, x173), (14, Value.int .i64 n175), (15, Value.bool (decide (n175 ≤ x162))), (16, Value.bool (decide (n175 ≤ x162))), (17, Value.bool (decide (n175 ≤ x162))), (18, r_0), (19, r_0), (20, p197), (21, x205), (22, r_0), (23, r_0), (24, p208), (25, Value.int .i64 x216), (26, p218), (27, Value.int .u8 x230), (28, Value.bool (decide (8 < x230))), (29, Value.bool (decide (8 < x230))), (30, Value.bool (decide (8 < x230))), (31, undef), (32, undef), (33, undef), (34, undef), (35, undef), (36, undef), (37, undef), (38, undef), (39, undef), (40, undef), (41, undef), (42, undef), (43, undef), (44, undef), (45, undef), (46, undef), (47, undef), (48, undef), (49, undef), (50, undef), (51, undef), (52, undef), (53, Value.bool true)]) E43_4 mixed R43_1_N R43_1_O rfl (pv_cons rfl (pv_cons rfl (pv_cons rfl (pv_cons rfl (pv_cons rfl (pv_cons rfl (pv_cons rfl (pv_cons rfl (pv_cons rfl (pv_cons rfl (pv_cons rfl (pv_cons rfl (pv_cons rfl (pv_cons rfl (pv_cons rfl (pv_cons rfl (pv_cons rfl (pv_cons rfl (pv_cons rfl (pv_cons rfl (pv_cons rfl (pv_cons rfl (pv_cons rfl (pv_cons rfl (pv_cons rfl (pv_cons rfl (pv_cons rfl (pv_cons rfl (pv_cons rfl (pv_cons rfl (pv_cons rfl (pv_cons rfl (pv_cons rfl (pv_cons rfl (pv_cons rfl (pv_cons rfl (pv_cons rfl (pv_cons rfl (pv_cons rfl (pv_cons rfl (pv_cons rfl (pv_cons rfl (pv_cons rfl (pv_cons rfl (pv_cons rfl (pv_cons rfl (pv_cons rfl (pv_cons rfl (pv_cons rfl (pv_cons rfl (pv_cons rfl (pv_cons rfl (pv_cons rfl (pv_cons rfl (pv_nil _)))))))))))))))))))))))))))))))))))))))))))))))))))))))
          (ffc (d := 6) (v := r_0) (hd_v rfl fun ρ hρ => ⟨rfl, opv_move rfl rfl ((hρ 0 (lmem rfl)).trans h0)⟩) rfl rfl
          (ffc (d := 7) (v := r_0) (hd_v rfl fun ρ hρ => ⟨rfl, ov_nck rfl rfl ((hρ 6 (lmem rfl)).trans rfl) hp127⟩) rfl rfl
          (ffc (d := 8) (v := p128) (hd_v rfl fun ρ hρ => ⟨rfl, ov_fldA rfl rfl underlying94 rfl sz3 (by decide) ((hρ 7 (lmem rfl)).trans rfl) hp131 rfl hv132⟩) rfl rfl
          (ffc (d := 9) (v := .int .i64 x136) (hd_v rfl fun ρ hρ => ⟨rfl, ov_ldI rfl underlying3 rfl ((hρ 8 (lmem rfl)).trans rfl) hp135 hg137⟩) rfl rfl
          (ffc (d := 10) (v := .bool (decide (x136 < 0))) (hd_v rfl fun ρ hρ => ⟨rfl, opv_lt rfl rfl rfl ((hρ 9 (lmem rfl)).trans rfl) rfl⟩) rfl rfl
          (ffc (d := 11) (v := .bool (decide (x136 < 0))) (hd_v rfl fun ρ hρ => ⟨rfl, opv_move rfl rfl ((hρ 10 (lmem rfl)).trans rfl)⟩) rfl rfl
          (ffc (d := 12) (v := r_0) (hd_v rfl fun ρ hρ => ⟨⟨_, rfl, .inl ⟨_, ((hρ 11 (lmem rfl)).trans rfl), gq hb138 rfl⟩⟩, opv_move rfl rfl ((hρ 0 (lmem rfl)).trans h0)⟩) rfl rfl
          (ffc (d := 13) (v := r_0) (hd_v rfl fun ρ hρ => ⟨⟨_, rfl, .inl ⟨_, ((hρ 11 (lmem rfl)).trans rfl), gq hb138 rfl⟩⟩, ov_nck rfl rfl ((hρ 12 (lmem rfl)).trans rfl) hp153⟩) rfl rfl
          (ffc (d := 14) (v := p154) (hd_v rfl fun ρ hρ => ⟨⟨_, rfl, .inl ⟨_, ((hρ 11 (lmem rfl)).trans rfl), gq hb138 rfl⟩⟩, ov_fldA rfl rfl underlying94 rfl sz3 (by decide) ((hρ 13 (lmem rfl)).trans rfl) hp157 rfl hv158⟩) rfl rfl
          (ffc (d := 15) (v := .int .i64 x162) (hd_v rfl fun ρ hρ => ⟨⟨_, rfl, .inl ⟨_, ((hρ 11 (lmem rfl)).trans rfl), gq hb138 rfl⟩⟩, ov_ldI rfl underlying3 rfl ((hρ 14 (lmem rfl)).trans rfl) hp161 hg163⟩) rfl rfl
          (ffc (d := 16) (v := r_0) (hd_v rfl fun ρ hρ => ⟨⟨_, rfl, .inl ⟨_, ((hρ 11 (lmem rfl)).trans rfl), gq hb138 rfl⟩⟩, opv_move rfl rfl ((hρ 0 (lmem rfl)).trans h0)⟩) rfl rfl
          (ffc (d := 17) (v := r_0) (hd_v rfl fun ρ hρ => ⟨⟨_, rfl, .inl ⟨_, ((hρ 11 (lmem rfl)).trans rfl), gq hb138 rfl⟩⟩, ov_nck rfl rfl ((hρ 16 (lmem rfl)).trans rfl) hp164⟩) rfl rfl
          (ffc (d := 18) (v := p165) (hd_v rfl fun ρ hρ => ⟨⟨_, rfl, .inl ⟨_, ((hρ 11 (lmem rfl)).trans rfl), gq hb138 rfl⟩⟩, ov_fldA rfl rfl underlying94 rfl sz25 (by decide) ((hρ 17 (lmem rfl)).trans rfl) hp168 rfl hv169⟩) rfl rfl
          (ffc (d := 19) (v := x173) (hd_v rfl fun ρ hρ => ⟨⟨_, rfl, .inl ⟨_, ((hρ 11 (lmem rfl)).trans rfl), gq hb138 rfl⟩⟩, ov_ldV rfl underlying25 rfl rfl ((hρ 18 (lmem rfl)).trans rfl) hp172 hg174⟩) rfl rfl
          (ffc (d := 20) (v := .int .i64 n175) (hd_v rfl fun ρ hρ => ⟨⟨_, rfl, .inl ⟨_, ((hρ 11 (lmem rfl)).trans rfl), gq hb138 rfl⟩⟩, ov_len rfl rfl rfl underlying25 ((hρ 19 (lmem rfl)).trans rfl) hv179 hn180⟩) rfl rfl
          (ffc (d := 21) (v := .bool (decide (n175 ≤ x162))) (hd_v rfl fun ρ hρ => ⟨⟨_, rfl, .inl ⟨_, ((hρ 11 (lmem rfl)).trans rfl), gq hb138 rfl⟩⟩, opv_ge rfl rfl rfl ((hρ 15 (lmem rfl)).trans rfl) ((hρ 20 (lmem rfl)).trans rfl)⟩) rfl rfl
          (ffc (d := 22) (v := .bool (decide (n175 ≤ x162))) (hd_v rfl fun ρ hρ => ⟨rfl, ov_pickF rfl rfl rfl rfl ((hρ 11 (lmem rfl)).trans rfl) hb138 ((hρ 21 (lmem rfl)).trans rfl)⟩) rfl rfl
          (ffc (d := 23) (v := .bool (decide (n175 ≤ x162))) (hd_v rfl fun ρ hρ => ⟨rfl, opv_move rfl rfl ((hρ 22 (lmem rfl)).trans rfl)⟩) rfl rfl
          (ffc (d := 24) (v := r_0) (hd_v rfl fun ρ hρ => ⟨⟨_, rfl, .inl ⟨_, ((hρ 23 (lmem rfl)).trans rfl), gq hb181 rfl⟩⟩, opv_move rfl rfl ((hρ 0 (lmem rfl)).trans h0)⟩) rfl rfl
          (ffc (d := 25) (v := r_0) (hd_v rfl fun ρ hρ => ⟨⟨_, rfl, .inl ⟨_, ((hρ 23 (lmem rfl)).trans rfl), gq hb181 rfl⟩⟩, ov_nck rfl rfl ((hρ 24 (lmem rfl)).trans rfl) hp196⟩) rfl rfl
          (ffc (d := 26) (v := p197) (hd_v rfl fun ρ hρ => ⟨⟨_, rfl, .inl ⟨_, ((hρ 23 (lmem rfl)).trans rfl), gq hb181 rfl⟩⟩, ov_fldA rfl rfl underlying94 rfl sz25 (by decide) ((hρ 25 (lmem rfl)).trans rfl) hp200 rfl hv201⟩) rfl rfl
          (ffc (d := 27) (v := x205) (hd_v rfl fun ρ hρ => ⟨⟨_, rfl, .inl ⟨_, ((hρ 23 (lmem rfl)).trans rfl), gq hb181 rfl⟩⟩, ov_ldV rfl underlying25 rfl rfl ((hρ 26 (lmem rfl)).trans rfl) hp204 hg206⟩) rfl rfl
          (ffc (d := 28) (v := r_0) (hd_v rfl fun ρ hρ => ⟨⟨_, rfl, .inl ⟨_, ((hρ 23 (lmem rfl)).trans rfl), gq hb181 rfl⟩⟩, opv_move rfl rfl ((hρ 0 (lmem rfl)).trans h0)⟩) rfl rfl
          (ffc (d := 29) (v := r_0) (hd_v rfl fun ρ hρ => ⟨⟨_, rfl, .inl ⟨_, ((hρ 23 (lmem rfl)).trans rfl), gq hb181 rfl⟩⟩, ov_nck rfl rfl ((hρ 28 (lmem rfl)).trans rfl) hp207⟩) rfl rfl
          (ffc (d := 30) (v := p208) (hd_v rfl fun ρ hρ => ⟨⟨_, rfl, .inl ⟨_, ((hρ 23 (lmem rfl)).trans rfl), gq hb181 rfl⟩⟩, ov_fldA rfl rfl underlying94 rfl sz3 (by decide) ((hρ 29 (lmem rfl)).trans rfl) hp211 rfl hv212⟩) rfl rfl
          (ffc (d := 31) (v := .int .i64 x216) (hd_v rfl fun ρ hρ => ⟨⟨_, rfl, .inl ⟨_, ((hρ 23 (lmem rfl)).trans rfl), gq hb181 rfl⟩⟩, ov_ldI rfl underlying3 rfl ((hρ 30 (lmem rfl)).trans rfl) hp215 hg217⟩) rfl rfl
          (ffc (d := 32) (v := p218) (hd_v rfl fun ρ hρ => ⟨⟨_, rfl, .inl ⟨_, ((hρ 23 (lmem rfl)).trans rfl), gq hb181 rfl⟩⟩, ov_ixS rfl rfl rfl underlying25 sz5 ((hρ 27 (lmem rfl)).trans rfl) ((hρ 31 (lmem rfl)).trans rfl) hp223 h0224 hj225 hv226⟩) rfl rfl
          (ffc (d := 33) (v := .int .u8 x230) (hd_v rfl fun ρ hρ => ⟨⟨_, rfl, .inl ⟨_, ((hρ 23 (lmem rfl)).trans rfl), gq hb181 rfl⟩⟩, ov_ldI rfl underlying5 rfl ((hρ 32 (lmem rfl)).trans rfl) hp229 hg231⟩) rfl rfl
          (ffc (d := 34) (v := .bool (decide (8 < x230))) (hd_v rfl fun ρ hρ => ⟨⟨_, rfl, .inl ⟨_, ((hρ 23 (lmem rfl)).trans rfl), gq hb181 rfl⟩⟩, opv_gt rfl rfl rfl ((hρ 33 (lmem rfl)).trans rfl) rfl⟩) rfl rfl
          (ffc (d := 35) (v := .bool (decide (8 < x230))) (hd_v rfl fun ρ hρ => ⟨rfl, ov_pickF rfl rfl rfl rfl ((hρ 23 (lmem rfl)).trans rfl) hb181 ((hρ 34 (lmem rfl)).trans rfl)⟩) rfl rfl
          (ffc (d := 36) (v := .bool (decide (8 < x230))) (hd_v rfl fun ρ hρ => ⟨rfl, opv_move rfl rfl ((hρ 35 (lmem rfl)).trans rfl)⟩) rfl rfl
          (ffc (d := 37) (v := undef) (hd_s rfl (fun ρ hρ => ⟨_, rfl, .inl ⟨_, ((hρ 36 (lmem rfl)).trans rfl), gq hb232 rfl⟩⟩) rfl) rfl rfl
          (ffc (d := 38) (v := undef) (hd_s rfl (fun ρ hρ => ⟨_, rfl, .inl ⟨_, ((hρ 36 (lmem rfl)).trans rfl), gq hb232 rfl⟩⟩) rfl) rfl rfl
          (ffc (d := 39) (v := undef) (hd_s rfl (fun ρ hρ => ⟨_, rfl, .inl ⟨_, ((hρ 36 (lmem rfl)).trans rfl), gq hb232 rfl⟩⟩) rfl) rfl rfl
          (ffc (d := 40) (v := undef) (hd_s rfl (fun ρ hρ => ⟨_, rfl, .inl ⟨_, ((hρ 36 (lmem rfl)).trans rfl), gq hb232 rfl⟩⟩) rfl) rfl rfl
          (ffc (d := 41) (v := undef) (hd_s rfl (fun ρ hρ => ⟨_, rfl, .inl ⟨_, ((hρ 36 (lmem rfl)).trans rfl), gq hb232 rfl⟩⟩) rfl) rfl rfl
          (ffc (d := 42) (v := undef) (hd_s rfl (fun ρ hρ => ⟨_, rfl, .inl ⟨_, ((hρ 36 (lmem rfl)).trans rfl), gq hb232 rfl⟩⟩) rfl) rfl rfl
          (ffc (d := 43) (v := undef) (hd_s rfl (fun ρ hρ => ⟨_, rfl, .inl ⟨_, ((hρ 36 (lmem rfl)).trans rfl), gq hb232 rfl⟩⟩) rfl) rfl rfl
          (ffc (d := 44) (v := undef) (hd_s rfl (fun ρ hρ => ⟨_, rfl, .inl ⟨_, ((hρ 36 (lmem rfl)).trans rfl), gq hb232 rfl⟩⟩) rfl) rfl rfl
          (ffc (d := 45) (v := undef) (hd_s rfl (fun ρ hρ => ⟨_, rfl, .inl ⟨_, ((hρ 36 (lmem rfl)).trans rfl), gq hb232 rfl⟩⟩) rfl) rfl rfl
          (ffc (d := 46) (v := undef) (hd_s rfl (fun ρ hρ => ⟨_, rfl, .inl ⟨_, ((hρ 36 (lmem rfl)).trans rfl), gq hb232 rfl⟩⟩) rfl) rfl rfl
          (ffc (d := 47) (v := undef) (hd_s rfl (fun ρ hρ => ⟨_, rfl, .inl ⟨_, ((hρ 36 (lmem rfl)).trans rfl), gq hb232 rfl⟩⟩) rfl) rfl rfl
          (ffc (d := 48) (v := undef) (hd_s rfl (fun ρ hρ => ⟨_, rfl, .inl ⟨_, ((hρ 36 (lmem rfl)).trans rfl), gq hb232 rfl⟩⟩) rfl) rfl rfl
          (ffc (d := 49) (v := undef) (hd_s rfl (fun ρ hρ => ⟨_, rfl, .inl ⟨_, ((hρ 36 (lmem rfl)).trans rfl), gq hb232 rfl⟩⟩) rfl) rfl rfl
          (ffc (d := 50) (v := undef) (hd_s rfl (fun ρ hρ => ⟨_, rfl, .inl ⟨_, ((hρ 36 (lmem rfl)).trans rfl), gq hb232 rfl⟩⟩) rfl) rfl rfl
          (ffc (d := 51) (v := undef) (hd_s rfl (fun ρ hρ => ⟨_, rfl, .inl ⟨_, ((hρ 36 (lmem rfl)).trans rfl), gq hb232 rfl⟩⟩) rfl) rfl rfl
          (ffc (d := 52) (v := undef) (hd_s rfl (fun ρ hρ => ⟨_, rfl, .inl ⟨_, ((hρ 36 (lmem rfl)).trans rfl), gq hb232 rfl⟩⟩) rfl) rfl rfl
          (ffc (d := 53) (v := undef) (hd_s rfl (fun ρ hρ => ⟨_, rfl, .inl ⟨_, ((hρ 36 (lmem rfl)).trans rfl), gq hb232 rfl⟩⟩) rfl) rfl rfl
          (ffc (d := 54) (v := undef) (hd_s rfl (fun ρ hρ => ⟨_, rfl, .inl ⟨_, ((hρ 36 (lmem rfl)).trans rfl), gq hb232 rfl⟩⟩) rfl) rfl rfl
          (ffc (d := 55) (v := undef) (hd_s rfl (fun ρ hρ => ⟨_, rfl, .inl ⟨_, ((hρ 36 (lmem rfl)).trans rfl), gq hb232 rfl⟩⟩) rfl) rfl rfl
          (ffc (d := 56) (v := undef) (hd_s rfl (fun ρ hρ => ⟨_, rfl, .inl ⟨_, ((hρ 36 (lmem rfl)).trans rfl), gq hb232 rfl⟩⟩) rfl) rfl rfl
          (ffc (d := 57) (v := undef) (hd_s rfl (fun ρ hρ => ⟨_, rfl, .inl ⟨_, ((hρ 36 (lmem rfl)).trans rfl), gq hb232 rfl⟩⟩) rfl) rfl rfl
          (ffc (d := 58) (v := undef) (hd_s rfl (fun ρ hρ => ⟨_, rfl, .inl ⟨_, ((hρ 36 (lmem rfl)).trans rfl), gq hb232 rfl⟩⟩) rfl) rfl rfl
          (ffc (d := 59) (v := .bool true) (hd_v rfl fun ρ hρ => ⟨rfl, ov_pickT rfl rfl rfl rfl ((hρ 36 (lmem rfl)).trans rfl) hb232 rfl⟩) rfl rfl
          ffn)))))))))))))))))))))))))))))))))))))))))))))))))))))) ?_
        refine lt_end ?_
        refine ago_condE  E43_5 rfl rfl (fun h => ?_) (fun h => tf h)
        refine ago_seqE E43_6 ?_
        refine ago_cut (fun ρ => ρ 0 = r_0 ∧ True) ⟨h0, trivial⟩ (fun ρ ⟨h0, _⟩ => ?_)
        refine ago_regE E43_7 (l := [0, 1, 2, 3]) rfl ?_
        refine lk (dt := some 60) R43_2_N rfl rfl rfl (opv_move rfl rfl h0) ?_
        obtain ⟨hp234, H⟩ := H
        refine lk (dt := some 61) R43_2_N rfl rfl rfl (ov_nck rfl rfl rfl hp234) ?_
        obtain ⟨b236, i237, p235, hp238, hv239, H⟩ := H
        refine lk (dt := some 62) R43_2_N rfl rfl rfl (ov_fldA rfl rfl underlying94 rfl sz3 (by decide) rfl hp238 rfl hv239) ?_
        obtain ⟨b241, i242, aw240, hp243, hw244, ho245, ha246, H⟩ := H
        refine lk (dt := none) R43_2_N rfl rfl rfl (ov_st rfl rfl rfl rfl rfl rfl sz3 hp243 hw244 ho245 ha246) ?_
        refine aops_nil ?_
        refine ago_seqE E43_8 ?_
        refine ago_regE E43_9 (l := [0]) rfl ?_
        refine lk (dt := some 2) R43_3_N rfl rfl rfl (opv_assign rfl rfl rfl) ?_
        refine aops_nil ?_
        exact ago_retE E43_10 (r := 0) (ares_1 rfl (oneT rfl)) rfl H
      · replace H := cnd_f H hb232
        obtain ⟨hp247, H⟩ := H
        obtain ⟨b249, i250, p248, hp251, hv252, H⟩ := H
        obtain ⟨b253, i254, x256, hp255, hg257, H⟩ := H
        obtain ⟨hp258, H⟩ := H
        obtain ⟨b260, i261, p259, hp262, hv263, H⟩ := H
        obtain ⟨b264, i265, x267, hp266, hg268, H⟩ := H
        obtain ⟨b270, i271, l272, c273, p269, hp274, h0275, hj276, hv277, H⟩ := H
        obtain ⟨b278, i279, x281, hp280, hg282, H⟩ := H
        obtain ⟨hp283, H⟩ := H
        obtain ⟨b285, i286, p284, hp287, hv288, H⟩ := H
        obtain ⟨b289, i290, x292, hp291, hg293, H⟩ := H
        obtain ⟨q295, l296, c297, n294, hv298, hn299, H⟩ := H
        obtain ⟨hp300, H⟩ := H
        obtain ⟨b302, i303, p301, hp304, hv305, H⟩ := H
        obtain ⟨b306, i307, x309, hp308, hg310, H⟩ := H
        refine ago_drawH (p := [0, 1, 2, 3, 4, 5, 6, 7, 8, 9, 10, 11, 12, 13, 14, 15, 16, 17, 18, 19, 20, 21, 22, 23, 24, 25, 26, 27, 28, 29, 30, 31, 32, 33, 34, 35, 36, 37, 38, 39, 40, 41, 42, 43, 44, 45, 46, 47, 48, 49, 50, 51, 52, 53]) (tl := []) (hv := [(0, r_0), (1, r_0), (2, p128), (3, Value.int .i64 x136), (4, Value.bool (decide (x136 < 0))), (5, Value.bool (decide (x136 < 0))), (6, r_0), (7, r_0), (8, p154), (9, Value.int .i64 x162), (10, r_0), (11, r_0), (12, p165), (13, x173), (14, Value.int .i64 n175), (15, Value.bool (decide (n175 ≤ x162))), (16, Value.bool (decide (n175 ≤ x162))), (17, Value.bool (decide (n175 ≤ x162))), (18, r_0), (19, r_0), (20, p197), (21, x205), (22, r_0), (23, r_0), (24, p208), (25, Value.int .i64 x216), (26, p218), (27, Value.int .u8 x230), (28, Value.bool (decide (8 < x230))), (29, Value.bool (decide (8 < x230))), (30, Value.bool (decide (8 < x230))), (31, r_0), (32, r_0), (33, p248), (34, x256), (35, r_0), (36, r_0), (37, p259), (38, Value.int .i64 x267), (39, p269), (40, Value.int .u8 x281), (41, Value.int .i64 (IntKind.i64.wrap x281)), (42, r_0), (43, r_0), (44, p284), (45, x292), (46, Value.int .i64 n294), (47, r_0), (48, r_0), (49, p301), (50, Value.int .i64 x309), (51, Value.int .i64 (IntKind.i64.wrap (n294 - x309))), (52, Value.bool (decide ((IntKind.i64.wrap (n294 - x309)) ≤ (IntKind.i64.wrap x281)))), (53, Value.bool (decide ((IntKind.i64.wrap (n294 - x309)) ≤ (IntKind.i64.wrap x281))))]) E43_4 mixed R43_1_N R43_1_O rfl (pv_cons rfl (pv_cons rfl (pv_cons rfl (pv_cons rfl (pv_cons rfl (pv_cons rfl (pv_cons rfl (pv_cons rfl (pv_cons rfl (pv_cons rfl (pv_cons rfl (pv_cons rfl (pv_cons rfl (pv_cons rfl (pv_cons rfl (pv_cons rfl (pv_cons rfl (pv_cons rfl (pv_cons rfl (pv_cons rfl (pv_cons rfl (pv_cons rfl (pv_cons rfl (pv_cons rfl (pv_cons rfl (pv_cons rfl (pv_cons rfl (pv_cons rfl (pv_cons rfl (pv_cons rfl (pv_cons rfl (pv_cons rfl (pv_cons rfl (pv_cons rfl (pv_cons rfl (pv_cons rfl (pv_cons rfl (pv_cons rfl (pv_cons rfl (pv_cons rfl (pv_cons rfl (pv_cons rfl (pv_cons rfl (pv_cons rfl (pv_cons rfl (pv_cons rfl (pv_cons rfl (pv_cons rfl (pv_cons rfl (pv_cons rfl (pv_cons rfl (pv_cons rfl (pv_cons rfl (pv_cons rfl (pv_nil _)))))))))))))))))))))))))))))))))))))))))))))))))))))))
          (ffc (d := 6) (v := r_0) (hd_v rfl fun ρ hρ => ⟨rfl, opv_move rfl rfl ((hρ 0 (lmem rfl)).trans h0)⟩) rfl rfl
          (ffc (d := 7) (v := r_0) (hd_v rfl fun ρ hρ => ⟨rfl, ov_nck rfl rfl ((hρ 6 (lmem rfl)).trans rfl) hp127⟩) rfl rfl
          (ffc (d := 8) (v := p128) (hd_v rfl fun ρ hρ => ⟨rfl, ov_fldA rfl rfl underlying94 rfl sz3 (by decide) ((hρ 7 (lmem rfl)).trans rfl) hp131 rfl hv132⟩) rfl rfl
          (ffc (d := 9) (v := .int .i64 x136) (hd_v rfl fun ρ hρ => ⟨rfl, ov_ldI rfl underlying3 rfl ((hρ 8 (lmem rfl)).trans rfl) hp135 hg137⟩) rfl rfl
          (ffc (d := 10) (v := .bool (decide (x136 < 0))) (hd_v rfl fun ρ hρ => ⟨rfl, opv_lt rfl rfl rfl ((hρ 9 (lmem rfl)).trans rfl) rfl⟩) rfl rfl
          (ffc (d := 11) (v := .bool (decide (x136 < 0))) (hd_v rfl fun ρ hρ => ⟨rfl, opv_move rfl rfl ((hρ 10 (lmem rfl)).trans rfl)⟩) rfl rfl
          (ffc (d := 12) (v := r_0) (hd_v rfl fun ρ hρ => ⟨⟨_, rfl, .inl ⟨_, ((hρ 11 (lmem rfl)).trans rfl), gq hb138 rfl⟩⟩, opv_move rfl rfl ((hρ 0 (lmem rfl)).trans h0)⟩) rfl rfl
          (ffc (d := 13) (v := r_0) (hd_v rfl fun ρ hρ => ⟨⟨_, rfl, .inl ⟨_, ((hρ 11 (lmem rfl)).trans rfl), gq hb138 rfl⟩⟩, ov_nck rfl rfl ((hρ 12 (lmem rfl)).trans rfl) hp153⟩) rfl rfl
          (ffc (d := 14) (v := p154) (hd_v rfl fun ρ hρ => ⟨⟨_, rfl, .inl ⟨_, ((hρ 11 (lmem rfl)).trans rfl), gq hb138 rfl⟩⟩, ov_fldA rfl rfl underlying94 rfl sz3 (by decide) ((hρ 13 (lmem rfl)).trans rfl) hp157 rfl hv158⟩) rfl rfl
          (ffc (d := 15) (v := .int .i64 x162) (hd_v rfl fun ρ hρ => ⟨⟨_, rfl, .inl ⟨_, ((hρ 11 (lmem rfl)).trans rfl), gq hb138 rfl⟩⟩, ov_ldI rfl underlying3 rfl ((hρ 14 (lmem rfl)).trans rfl) hp161 hg163⟩) rfl rfl
          (ffc (d := 16) (v := r_0) (hd_v rfl fun ρ hρ => ⟨⟨_, rfl, .inl ⟨_, ((hρ 11 (lmem rfl)).trans rfl), gq hb138 rfl⟩⟩, opv_move rfl rfl ((hρ 0 (lmem rfl)).trans h0)⟩) rfl rfl
          (ffc (d := 17) (v := r_0) (hd_v rfl fun ρ hρ => ⟨⟨_, rfl, .inl ⟨_, ((hρ 11 (lmem rfl)).trans rfl), gq hb138 rfl⟩⟩, ov_nck rfl rfl ((hρ 16 (lmem rfl)).trans rfl) hp164⟩) rfl rfl
          (ffc (d := 18) (v := p165) (hd_v rfl fun ρ hρ => ⟨⟨_, rfl, .inl ⟨_, ((hρ 11 (lmem rfl)).trans rfl), gq hb138 rfl⟩⟩, ov_fldA rfl rfl underlying94 rfl sz25 (by decide) ((hρ 17 (lmem rfl)).trans rfl) hp168 rfl hv169⟩) rfl rfl
          (ffc (d := 19) (v := x173) (hd_v rfl fun ρ hρ => ⟨⟨_, rfl, .inl ⟨_, ((hρ 11 (lmem rfl)).trans rfl), gq hb138 rfl⟩⟩, ov_ldV rfl underlying25 rfl rfl ((hρ 18 (lmem rfl)).trans rfl) hp172 hg174⟩) rfl rfl
          (ffc (d := 20) (v := .int .i64 n175) (hd_v rfl fun ρ hρ => ⟨⟨_, rfl, .inl ⟨_, ((hρ 11 (lmem rfl)).trans rfl), gq hb138 rfl⟩⟩, ov_len rfl rfl rfl underlying25 ((hρ 19 (lmem rfl)).trans rfl) hv179 hn180⟩) rfl rfl
          (ffc (d := 21) (v := .bool (decide (n175 ≤ x162))) (hd_v rfl fun ρ hρ => ⟨⟨_, rfl, .inl ⟨_, ((hρ 11 (lmem rfl)).trans rfl), gq hb138 rfl⟩⟩, opv_ge rfl rfl rfl ((hρ 15 (lmem rfl)).trans rfl) ((hρ 20 (lmem rfl)).trans rfl)⟩) rfl rfl
          (ffc (d := 22) (v := .bool (decide (n175 ≤ x162))) (hd_v rfl fun ρ hρ => ⟨rfl, ov_pickF rfl rfl rfl rfl ((hρ 11 (lmem rfl)).trans rfl) hb138 ((hρ 21 (lmem rfl)).trans rfl)⟩) rfl rfl
          (ffc (d := 23) (v := .bool (decide (n175 ≤ x162))) (hd_v rfl fun ρ hρ => ⟨rfl, opv_move rfl rfl ((hρ 22 (lmem rfl)).trans rfl)⟩) rfl rfl
          (ffc (d := 24) (v := r_0) (hd_v rfl fun ρ hρ => ⟨⟨_, rfl, .inl ⟨_, ((hρ 23 (lmem rfl)).trans rfl), gq hb181 rfl⟩⟩, opv_move rfl rfl ((hρ 0 (lmem rfl)).trans h0)⟩) rfl rfl
          (ffc (d := 25) (v := r_0) (hd_v rfl fun ρ hρ => ⟨⟨_, rfl, .inl ⟨_, ((hρ 23 (lmem rfl)).trans rfl), gq hb181 rfl⟩⟩, ov_nck rfl rfl ((hρ 24 (lmem rfl)).trans rfl) hp196⟩) rfl rfl
          (ffc (d := 26) (v := p197) (hd_v rfl fun ρ hρ => ⟨⟨_, rfl, .inl ⟨_, ((hρ 23 (lmem rfl)).trans rfl), gq hb181 rfl⟩⟩, ov_fldA rfl rfl underlying94 rfl sz25 (by decide) ((hρ 25 (lmem rfl)).trans rfl) hp200 rfl hv201⟩) rfl rfl
          (ffc (d := 27) (v := x205) (hd_v rfl fun ρ hρ => ⟨⟨_, rfl, .inl ⟨_, ((hρ 23 (lmem rfl)).trans rfl), gq hb181 rfl⟩⟩, ov_ldV rfl underlying25 rfl rfl ((hρ 26 (lmem rfl)).trans rfl) hp204 hg206⟩) rfl rfl
          (ffc (d := 28) (v := r_0) (hd_v rfl fun ρ hρ => ⟨⟨_, rfl, .inl ⟨_, ((hρ 23 (lmem rfl)).trans rfl), gq hb181 rfl⟩⟩, opv_move rfl rfl ((hρ 0 (lmem rfl)).trans h0)⟩) rfl rfl
          (ffc (d := 29) (v := r_0) (hd_v rfl fun ρ hρ => ⟨⟨_, rfl, .inl ⟨_, ((hρ 23 (lmem rfl)).trans rfl), gq hb181 rfl⟩⟩, ov_nck rfl rfl ((hρ 28 (lmem rfl)).trans rfl) hp207⟩) rfl rfl
          (ffc (d := 30) (v := p208) (hd_v rfl fun ρ hρ => ⟨⟨_, rfl, .inl ⟨_, ((hρ 23 (lmem rfl)).trans rfl), gq hb181 rfl⟩⟩, ov_fldA rfl rfl underlying94 rfl sz3 (by decide) ((hρ 29 (lmem rfl)).trans rfl) hp211 rfl hv212⟩) rfl rfl
          (ffc (d := 31) (v := .int .i64 x216) (hd_v rfl fun ρ hρ => ⟨⟨_, rfl, .inl ⟨_, ((hρ 23 (lmem rfl)).trans rfl), gq hb181 rfl⟩⟩, ov_ldI rfl underlying3 rfl ((hρ 30 (lmem rfl)).trans rfl) hp215 hg217⟩) rfl rfl
          (ffc (d := 32) (v := p218) (hd_v rfl fun ρ hρ => ⟨⟨_, rfl, .inl ⟨_, ((hρ 23 (lmem rfl)).trans rfl), gq hb181 rfl⟩⟩, ov_ixS rfl rfl rfl underlying25 sz5 ((hρ 27 (lmem rfl)).trans rfl) ((hρ 31 (lmem rfl)).trans rfl) hp223 h0224 hj225 hv226⟩) rfl rfl
          (ffc (d := 33) (v := .int .u8 x230) (hd_v rfl fun ρ hρ => ⟨⟨_, rfl, .inl ⟨_, ((hρ 23 (lmem rfl)).trans rfl), gq hb181 rfl⟩⟩, ov_ldI rfl underlying5 rfl ((hρ 32 (lmem rfl)).trans rfl) hp229 hg231⟩) rfl rfl
          (ffc (d := 34) (v := .bool (decide (8 < x230))) (hd_v rfl fun ρ hρ => ⟨⟨_, rfl, .inl ⟨_, ((hρ 23 (lmem rfl)).trans rfl), gq hb181 rfl⟩⟩, opv_gt rfl rfl rfl ((hρ 33 (lmem rfl)).trans rfl) rfl⟩) rfl rfl
          (ffc (d := 35) (v := .bool (decide (8 < x230))) (hd_v rfl fun ρ hρ => ⟨rfl, ov_pickF rfl rfl rfl rfl ((hρ 23 (lmem rfl)).trans rfl) hb181 ((hρ 34 (lmem rfl)).trans rfl)⟩) rfl rfl
          (ffc (d := 36) (v := .bool (decide (8 < x230))) (hd_v rfl fun ρ hρ => ⟨rfl, opv_move rfl rfl ((hρ 35 (lmem rfl)).trans rfl)⟩) rfl rfl
          (ffc (d := 37) (v := r_0) (hd_v rfl fun ρ hρ => ⟨⟨_, rfl, .inl ⟨_, ((hρ 36 (lmem rfl)).trans rfl), gq hb232 rfl⟩⟩, opv_move rfl rfl ((hρ 0 (lmem rfl)).trans h0)⟩) rfl rfl
          (ffc (d := 38) (v := r_0) (hd_v rfl fun ρ hρ => ⟨⟨_, rfl, .inl ⟨_, ((hρ 36 (lmem rfl)).trans rfl), gq hb232 rfl⟩⟩, ov_nck rfl rfl ((hρ 37 (lmem rfl)).trans rfl) hp247⟩) rfl rfl
          (ffc (d := 39) (v := p248) (hd_v rfl fun ρ hρ => ⟨⟨_, rfl, .inl ⟨_, ((hρ 36 (lmem rfl)).trans rfl), gq hb232 rfl⟩⟩, ov_fldA rfl rfl underlying94 rfl sz25 (by decide) ((hρ 38 (lmem rfl)).trans rfl) hp251 rfl hv252⟩) rfl rfl
          (ffc (d := 40) (v := x256) (hd_v rfl fun ρ hρ => ⟨⟨_, rfl, .inl ⟨_, ((hρ 36 (lmem rfl)).trans rfl), gq hb232 rfl⟩⟩, ov_ldV rfl underlying25 rfl rfl ((hρ 39 (lmem rfl)).trans rfl) hp255 hg257⟩) rfl rfl
          (ffc (d := 41) (v := r_0) (hd_v rfl fun ρ hρ => ⟨⟨_, rfl, .inl ⟨_, ((hρ 36 (lmem rfl)).trans rfl), gq hb232 rfl⟩⟩, opv_move rfl rfl ((hρ 0 (lmem rfl)).trans h0)⟩) rfl rfl
          (ffc (d := 42) (v := r_0) (hd_v rfl fun ρ hρ => ⟨⟨_, rfl, .inl ⟨_, ((hρ 36 (lmem rfl)).trans rfl), gq hb232 rfl⟩⟩, ov_nck rfl rfl ((hρ 41 (lmem rfl)).trans rfl) hp258⟩) rfl rfl
          (ffc (d := 43) (v := p259) (hd_v rfl fun ρ hρ => ⟨⟨_, rfl, .inl ⟨_, ((hρ 36 (lmem rfl)).trans rfl), gq hb232 rfl⟩⟩, ov_fldA rfl rfl underlying94 rfl sz3 (by decide) ((hρ 42 (lmem rfl)).trans rfl) hp262 rfl hv263⟩) rfl rfl
          (ffc (d := 44) (v := .int .i64 x267) (hd_v rfl fun ρ hρ => ⟨⟨_, rfl, .inl ⟨_, ((hρ 36 (lmem rfl)).trans rfl), gq hb232 rfl⟩⟩, ov_ldI rfl underlying3 rfl ((hρ 43 (lmem rfl)).trans rfl) hp266 hg268⟩) rfl rfl
          (ffc (d := 45) (v := p269) (hd_v rfl fun ρ hρ => ⟨⟨_, rfl, .inl ⟨_, ((hρ 36 (lmem rfl)).trans rfl), gq hb232 rfl⟩⟩, ov_ixS rfl rfl rfl underlying25 sz5 ((hρ 40 (lmem rfl)).trans rfl) ((hρ 44 (lmem rfl)).trans rfl) hp274 h0275 hj276 hv277⟩) rfl rfl
          (ffc (d := 46) (v := .int .u8 x281) (hd_v rfl fun ρ hρ => ⟨⟨_, rfl, .inl ⟨_, ((hρ 36 (lmem rfl)).trans rfl), gq hb232 rfl⟩⟩, ov_ldI rfl underlying5 rfl ((hρ 45 (lmem rfl)).trans rfl) hp280 hg282⟩) rfl rfl
          (ffc (d := 47) (v := .int .i64 (IntKind.i64.wrap x281)) (hd_v rfl fun ρ hρ => ⟨⟨_, rfl, .inl ⟨_, ((hρ 36 (lmem rfl)).trans rfl), gq hb232 rfl⟩⟩, opv_conv rfl rfl underlying5 underlying3 ((hρ 46 (lmem rfl)).trans rfl)⟩) rfl rfl
          (ffc (d := 48) (v := r_0) (hd_v rfl fun ρ hρ => ⟨⟨_, rfl, .inl ⟨_, ((hρ 36 (lmem rfl)).trans rfl), gq hb232 rfl⟩⟩, opv_move rfl rfl ((hρ 0 (lmem rfl)).trans h0)⟩) rfl rfl
          (ffc (d := 49) (v := r_0) (hd_v rfl fun ρ hρ => ⟨⟨_, rfl, .inl ⟨_, ((hρ 36 (lmem rfl)).trans rfl), gq hb232 rfl⟩⟩, ov_nck rfl rfl ((hρ 48 (lmem rfl)).trans rfl) hp283⟩) rfl rfl
          (ffc (d := 50) (v := p284) (hd_v rfl fun ρ hρ => ⟨⟨_, rfl, .inl ⟨_, ((hρ 36 (lmem rfl)).trans rfl), gq hb232 rfl⟩⟩, ov_fldA rfl rfl underlying94 rfl sz25 (by decide) ((hρ 49 (lmem rfl)).trans rfl) hp287 rfl hv288⟩) rfl rfl
          (ffc (d := 51) (v := x292) (hd_v rfl fun ρ hρ => ⟨⟨_, rfl, .inl ⟨_, ((hρ 36 (lmem rfl)).trans rfl), gq hb232 rfl⟩⟩, ov_ldV rfl underlying25 rfl rfl ((hρ 50 (lmem rfl)).trans rfl) hp291 hg293⟩) rfl rfl
          (ffc (d := 52) (v := .int .i64 n294) (hd_v rfl fun ρ hρ => ⟨⟨_, rfl, .inl ⟨_, ((hρ 36 (lmem rfl)).trans rfl), gq hb232 rfl⟩⟩, ov_len rfl rfl rfl underlying25 ((hρ 51 (lmem rfl)).trans rfl) hv298 hn299⟩) rfl rfl
          (ffc (d := 53) (v := r_0) (hd_v rfl fun ρ hρ => ⟨⟨_, rfl, .inl ⟨_, ((hρ 36 (lmem rfl)).trans rfl), gq hb232 rfl⟩⟩, opv_move rfl rfl ((hρ 0 (lmem rfl)).trans h0)⟩) rfl rfl
          (ffc (d := 54) (v := r_0) (hd_v rfl fun ρ hρ => ⟨⟨_, rfl, .inl ⟨_, ((hρ 36 (lmem rfl)).trans rfl), gq hb232 rfl⟩⟩, ov_nck rfl rfl ((hρ 53 (lmem rfl)).trans rfl) hp300⟩) rfl rfl
          (ffc (d := 55) (v := p301) (hd_v rfl fun ρ hρ => ⟨⟨_, rfl, .inl ⟨_, ((hρ 36 (lmem rfl)).trans rfl), gq hb232 rfl⟩⟩, ov_fldA rfl rfl underlying94 rfl sz3 (by decide) ((hρ 54 (lmem rfl)).trans rfl) hp304 rfl hv305⟩) rfl rfl
          (ffc (d := 56) (v := .int .i64 x309) (hd_v rfl fun ρ hρ => ⟨⟨_, rfl, .inl ⟨_, ((hρ 36 (lmem rfl)).trans rfl), gq hb232 rfl⟩⟩, ov_ldI rfl underlying3 rfl ((hρ 55 (lmem rfl)).trans rfl) hp308 hg310⟩) rfl rfl
          (ffc (d := 57) (v := .int .i64 (IntKind.i64.wrap (n294 - x309))) (hd_v rfl fun ρ hρ => ⟨⟨_, rfl, .inl ⟨_, ((hρ 36 (lmem rfl)).trans rfl), gq hb232 rfl⟩⟩, opv_sub rfl rfl rfl ((hρ 52 (lmem rfl)).trans rfl) ((hρ 56 (lmem rfl)).trans rfl)⟩) rfl rfl
          (ffc (d := 58) (v := .bool (decide ((IntKind.i64.wrap (n294 - x309)) ≤ (IntKind.i64.wrap x281)))) (hd_v rfl fun ρ hρ => ⟨⟨_, rfl, .inl ⟨_, ((hρ 36 (lmem rfl)).trans rfl), gq hb232 rfl⟩⟩, opv_ge rfl rfl rfl ((hρ 47 (lmem rfl)).trans rfl) ((hρ 57 (lmem rfl)).trans rfl)⟩) rfl rfl
          (ffc (d := 59) (v := .bool (decide ((IntKind.i64.wrap (n294 - x309)) ≤ (IntKind.i64.wrap x281)))) (hd_v rfl fun ρ hρ => ⟨rfl, ov_pickF rfl rfl rfl rfl ((hρ 36 (lmem rfl)).trans rfl) hb232 ((hρ 58 (lmem rfl)).trans rfl)⟩) rfl rfl
          ffn)))))))))))))))))))))))))))))))))))))))))))))))))))))) ?_
        refine lt_end ?_
        refine ago_condE  E43_5 rfl rfl (fun hb311 => ?_) (fun hb311 => ?_)
        · replace H := cnd_t H hb311
          refine ago_seqE E43_6 ?_
          refine ago_cut (fun ρ => ρ 0 = r_0 ∧ True) ⟨h0, trivial⟩ (fun ρ ⟨h0, _⟩ => ?_)
          refine ago_regE E43_7 (l := [0, 1, 2, 3]) rfl ?_
          refine lk (dt := some 60) R43_2_N rfl rfl rfl (opv_move rfl rfl h0) ?_
          obtain ⟨hp312, H⟩ := H
          refine lk (dt := some 61) R43_2_N rfl rfl rfl (ov_nck rfl rfl rfl hp312) ?_
          obtain ⟨b314, i315, p313, hp316, hv317, H⟩ := H
          refine lk (dt := some 62) R43_2_N rfl rfl rfl (ov_fldA rfl rfl underlying94 rfl sz3 (by decide) rfl hp316 rfl hv317) ?_
          obtain ⟨b319, i320, aw318, hp321, hw322, ho323, ha324, H⟩ := H
          refine lk (dt := none) R43_2_N rfl rfl rfl (ov_st rfl rfl rfl rfl rfl rfl sz3 hp321 hw322 ho323 ha324) ?_
          refine aops_nil ?_
          refine ago_seqE E43_8 ?_
          refine ago_regE E43_9 (l := [0]) rfl ?_
          refine lk (dt := some 2) R43_3_N rfl rfl rfl (opv_assign rfl rfl rfl) ?_
          refine aops_nil ?_
          exact ago_retE E43_10 (r := 0) (ares_1 rfl (oneT rfl)) rfl H
        · replace H := cnd_f H hb311
          refine ago_skipE E43_11 ?_
          refine ago_seqE E43_12 ?_
          refine ago_cut (fun ρ => ρ 0 = r_0 ∧ True) ⟨h0, trivial⟩ (fun ρ ⟨h0, _⟩ => ?_)
          refine ago_regE E43_13 (l := [0]) rfl ?_
          refine lk (dt := some 3) R43_4_N rfl rfl rfl (opv_assign rfl rfl rfl) ?_
          refine aops_nil ?_
          refine ago_seqE E43_14 ?_
          obtain ⟨hp325, H⟩ := H
          obtain ⟨b327, i328, p326, hp329, hv330, H⟩ := H
          obtain ⟨b331, i332, x334, hp333, hg335, H⟩ := H
          obtain ⟨hp336, H⟩ := H
          obtain ⟨b338, i339, p337, hp340, hv341, H⟩ := H
          obtain ⟨b342, i343, x345, hp344, hg346, H⟩ := H
          obtain ⟨b348, i349, l350, c351, p347, hp352, h0353, hj354, hv355, H⟩ := H
          obtain ⟨b356, i357, x359, hp358, hg360, H⟩ := H
          refine ago_drawH (p := [0, 1, 2, 3, 4, 5, 6, 7, 8, 9, 10, 11]) (tl := []) (hv := [(0, r_0), (1, r_0), (2, p326), (3, x334), (4, r_0), (5, r_0), (6, p337), (7, Value.int .i64 x345), (8, p347), (9, Value.int .u8 x359), (10, Value.int .i64 (IntKind.i64.wrap x359)), (11, Value.int .i64 (IntKind.i64.wrap x359))]) E43_15 mixed R43_5_N R43_5_O rfl (pv_cons rfl (pv_cons rfl (pv_cons rfl (pv_cons rfl (pv_cons rfl (pv_cons rfl (pv_cons rfl (pv_cons rfl (pv_cons rfl (pv_cons rfl (pv_cons rfl (pv_cons rfl (pv_nil _)))))))))))))
            (ffc (d := 63) (v := r_0) (hd_v rfl fun ρ hρ => ⟨rfl, opv_move rfl rfl ((hρ 0 (lmem rfl)).trans h0)⟩) rfl rfl
            (ffc (d := 64) (v := r_0) (hd_v rfl fun ρ hρ => ⟨rfl, ov_nck rfl rfl ((hρ 63 (lmem rfl)).trans rfl) hp325⟩) rfl rfl
            (ffc (d := 65) (v := p326) (hd_v rfl fun ρ hρ => ⟨rfl, ov_fldA rfl rfl underlying94 rfl sz25 (by decide) ((hρ 64 (lmem rfl)).trans rfl) hp329 rfl hv330⟩) rfl rfl
            (ffc (d := 66) (v := x334) (hd_v rfl fun ρ hρ => ⟨rfl, ov_ldV rfl underlying25 rfl rfl ((hρ 65 (lmem rfl)).trans rfl) hp333 hg335⟩) rfl rfl
            (ffc (d := 67) (v := r_0) (hd_v rfl fun ρ hρ => ⟨rfl, opv_move rfl rfl ((hρ 0 (lmem rfl)).trans h0)⟩) rfl rfl
            (ffc (d := 68) (v := r_0) (hd_v rfl fun ρ hρ => ⟨rfl, ov_nck rfl rfl ((hρ 67 (lmem rfl)).trans rfl) hp336⟩) rfl rfl
            (ffc (d := 69) (v := p337) (hd_v rfl fun ρ hρ => ⟨rfl, ov_fldA rfl rfl underlying94 rfl sz3 (by decide) ((hρ 68 (lmem rfl)).trans rfl) hp340 rfl hv341⟩) rfl rfl
            (ffc (d := 70) (v := .int .i64 x345) (hd_v rfl fun ρ hρ => ⟨rfl, ov_ldI rfl underlying3 rfl ((hρ 69 (lmem rfl)).trans rfl) hp344 hg346⟩) rfl rfl
            (ffc (d := 71) (v := p347) (hd_v rfl fun ρ hρ => ⟨rfl, ov_ixS rfl rfl rfl underlying25 sz5 ((hρ 66 (lmem rfl)).trans rfl) ((hρ 70 (lmem rfl)).trans rfl) hp352 h0353 hj354 hv355⟩) rfl rfl
            (ffc (d := 72) (v := .int .u8 x359) (hd_v rfl fun ρ hρ => ⟨rfl, ov_ldI rfl underlying5 rfl ((hρ 71 (lmem rfl)).trans rfl) hp358 hg360⟩) rfl rfl
            (ffc (d := 73) (v := .int .i64 (IntKind.i64.wrap x359)) (hd_v rfl fun ρ hρ => ⟨rfl, opv_conv rfl rfl underlying5 underlying3 ((hρ 72 (lmem rfl)).trans rfl)⟩) rfl rfl
            (ffc (d := 4) (v := .int .i64 (IntKind.i64.wrap x359)) (hd_v rfl fun ρ hρ => ⟨rfl, opv_assign rfl rfl ((hρ 73 (lmem rfl)).trans rfl)⟩) rfl rfl
            ffn)))))))))))) ?_
          refine lt_end ?_
          refine ago_seqE E43_16 ?_
          refine ago_seqE E43_17 ?_
          refine ago_cut (fun ρ => ρ 0 = r_0 ∧ ρ 3 = .int .u64 0 ∧ ρ 4 = .int .i64 (IntKind.i64.wrap x359) ∧ True) ⟨h0, rfl, rfl, trivial⟩ (fun ρ ⟨h0, h3, h4, _⟩ => ?_)
          refine ago_regE E43_18 (l := [0]) rfl ?_
          refine lk (dt := some 5) R43_6_N rfl rfl rfl (opv_assign rfl rfl rfl) ?_
          refine aops_nil ?_
          refine ago_blockE E43_19 ?_
          refine ago_loopE E43_20 ?_
          obtain ⟨n, H⟩ := H
          exact S43_1_ok Q E  n _ r_0 0 (IntKind.i64.wrap x359) 1 aw h0 h3 h4 rfl H
theorem F43_ok {Q : Int → AW → Prop} {E : List PanicEntry → AW → Prop} (r_0 : Value) (aw : AW) (H : S43_0 Q E r_0 aw) : CallP prog 43 [r_0] aw sh43 Q E :=
  callP_of func43 C43_is rfl (Nat.le_of_ble_eq_true rfl) (S43_0_ok Q E _ r_0 aw rfl H)
def C41_0 : Code := bodyOf f41
theorem C41_is : f41.body = some C41_0 := by kernel_rfl
def C41_1 : Code := cl C41_0
def R41_0 : Array Oper := regOps C41_1
def C41_2 : Code := cr C41_0
def C41_3 : Code := cl C41_2
def R41_1 : Array Oper := regOps C41_3
def C41_4 : Code := cr C41_2
def C41_5 : Code := cl C41_4
def C41_6 : Code := cl C41_5
def R41_2 : Array Oper := regOps C41_6
def C41_7 : Code := cr C41_5
def C41_8 : Code := cl C41_7
def C41_9 : Code := cl C41_8
def R41_3 : Array Oper := regOps C41_9
def C41_10 : Code := cr C41_8
def C41_11 : Code := cl C41_10
def R41_4 : Array Oper := regOps C41_11
def C41_12 : Code := cr C41_10
def C41_13 : Code := cr C41_7
def C41_14 : Code := cr C41_4
def C41_15 : Code := cl C41_14
def R41_5 : Array Oper := regOps C41_15
def C41_16 : Code := cr C41_14
theorem R41_0_N : dstsOk 28 R41_0 = true := by decide +kernel
theorem E41_1 : C41_1 = .region 0 R41_0 false := rfl
theorem R41_1_N : dstsOk 28 R41_1 = true := by decide +kernel
theorem E41_3 : C41_3 = .region 1 R41_1 false := rfl
theorem R41_2_N : dstsOk 28 R41_2 = true := by decide +kernel
theorem E41_6 : C41_6 = .region 2 R41_2 false := rfl
theorem R41_3_N : dstsOk 28 R41_3 = true := by decide +kernel
theorem E41_9 : C41_9 = .region 3 R41_3 false := rfl
theorem R41_4_N : dstsOk 28 R41_4 = true := by decide +kernel
theorem E41_11 : C41_11 = .region 4 R41_4 false := rfl
theorem E41_12 : C41_12 = .ret := rfl
theorem E41_10 : C41_10 = .seq C41_11 C41_12 := rfl
theorem E41_8 : C41_8 = .seq C41_9 C41_10 := rfl
theorem E41_13 : C41_13 = .skip := rfl
theorem E41_7 : C41_7 = .cond (.tmp 22) C41_8 C41_13 := rfl
theorem E41_5 : C41_5 = .seq C41_6 C41_7 := rfl
theorem R41_5_N : dstsOk 28 R41_5 = true := by decide +kernel
theorem E41_15 : C41_15 = .region 5 R41_5 false := rfl
theorem E41_16 : C41_16 = .ret := rfl
theorem E41_14 : C41_14 = .seq C41_15 C41_16 := rfl
theorem E41_4 : C41_4 = .seq C41_5 C41_14 := rfl
theorem E41_2 : C41_2 = .seq C41_3 C41_4 := rfl
theorem E41_0 : C41_0 = .seq C41_1 C41_2 := rfl
def S41_0 (Q : Int → AW → Prop) (E : List PanicEntry → AW → Prop)  (r_0 : Value) (most_1 : Int) (aw : AW) : Prop :=
  CallP prog 43 [r_0] aw sh43 (fun r1 aw2 =>
  nck r_0 (fldA r_0 1 fun p4 =>
  ldI .i64 aw2 p4 fun x12 =>
  cnd (decide (x12 < 0)) (nck r_0 (fldA r_0 1 fun p17 =>
  st aw2 p17 [.int .i64 (-1)] fun aw22 =>
  Q 0 aw22)) (cnd (decide (most_1 < 0)) (nck r_0 (fldA r_0 1 fun p32 =>
  st aw2 p32 [.int .i64 (-1)] fun aw37 =>
  Q 0 aw37)) (cnd (decide ((IntKind.u64.wrap most_1) < r1)) (nck r_0 (fldA r_0 1 fun p46 =>
  st aw2 p46 [.int .i64 (-1)] fun aw51 =>
  Q 0 aw51)) (Q (IntKind.i64.wrap r1) aw2))))) E
theorem S41_0_ok (Q : Int → AW → Prop) (E : List PanicEntry → AW → Prop)  (ρ : Env) (r_0 : Value) (most_1 : Int) (aw : AW) (h0 : ρ 0 = r_0) (h1 : ρ 1 = .int .i64 most_1) (H : S41_0 Q E  r_0 most_1 aw) :
    AGo prog 28 [.code C41_0] ρ [] aw (RR prog f41 28 sh41 Q E) := by
  unfold S41_0 at H
  refine ago_seqE E41_0 ?_
  refine ago_regE E41_1 (l := [0]) rfl ?_
  refine lk (dt := some 4) R41_0_N rfl rfl rfl (opv_assign rfl rfl rfl) ?_
  refine aops_nil ?_
  refine ago_seqE E41_2 ?_
  refine ago_regE E41_3 (l := [0, 1, 2]) rfl ?_
  refine lk (dt := some 6) R41_1_N rfl rfl rfl (opv_move rfl rfl h0) ?_
  refine lk_call (dt := some 7) R41_1_N rfl rfl rfl (opc_of rfl rfl is43 (ma_cons rfl rfl)) H (fun _ _ h => ⟨rfl, h⟩) fun r1 aw2 H => ?_
  refine lk (dt := some 5) R41_1_N rfl rfl rfl (opv_assign rfl rfl rfl) ?_
  refine aops_nil ?_
  refine ago_seqE E41_4 ?_
  refine ago_seqE E41_5 ?_
  refine ago_regE E41_6 (l := [0, 1, 2, 3, 4, 5, 6, 7, 8, 9, 10, 11, 12, 13, 14]) rfl ?_
  refine lk (dt := some 8) R41_2_N rfl rfl rfl (opv_move rfl rfl h0) ?_
  obtain ⟨hp3, H⟩ := H
  refine lk (dt := some 9) R41_2_N rfl rfl rfl (ov_nck rfl rfl rfl hp3) ?_
  obtain ⟨b5, i6, p4, hp7, hv8, H⟩ := H
  refine lk (dt := some 10) R41_2_N rfl rfl rfl (ov_fldA rfl rfl underlying94 rfl sz3 (by decide) rfl hp7 rfl hv8) ?_
  obtain ⟨b9, i10, x12, hp11, hg13, H⟩ := H
  refine lk (dt := some 11) R41_2_N rfl rfl rfl (ov_ldI rfl underlying3 rfl rfl hp11 hg13) ?_
  refine lk (dt := some 12) R41_2_N rfl rfl rfl (opv_lt rfl rfl rfl rfl rfl) ?_
  refine lk (dt := some 13) R41_2_N rfl rfl rfl (opv_move rfl rfl rfl) ?_
  rcases Bool.eq_false_or_eq_true (decide (x12 < 0)) with hb14 | hb14
  · replace H := cnd_t H hb14
    refine lk_skip (dt := some 14) R41_2_N rfl rfl ⟨_, rfl, .inl ⟨_, rfl, gq hb14 rfl⟩⟩ ?_
    refine lk_skip (dt := some 15) R41_2_N rfl rfl ⟨_, rfl, .inl ⟨_, rfl, gq hb14 rfl⟩⟩ ?_
    refine lk (dt := some 16) R41_2_N rfl rfl rfl (ov_pickT rfl rfl rfl rfl rfl hb14 rfl) ?_
    refine lk (dt := some 17) R41_2_N rfl rfl rfl (opv_move rfl rfl rfl) ?_
    refine lk_skip (dt := some 18) R41_2_N rfl rfl ⟨_, rfl, .inl ⟨_, rfl, gq rfl rfl⟩⟩ ?_
    refine lk_skip (dt := some 19) R41_2_N rfl rfl ⟨_, rfl, .inl ⟨_, rfl, gq rfl rfl⟩⟩ ?_
    refine lk_skip (dt := some 20) R41_2_N rfl rfl ⟨_, rfl, .inl ⟨_, rfl, gq rfl rfl⟩⟩ ?_
    refine lk_skip (dt := some 21) R41_2_N rfl rfl ⟨_, rfl, .inl ⟨_, rfl, gq rfl rfl⟩⟩ ?_
    refine lk (dt := some 22) R41_2_N rfl rfl rfl (ov_pickT rfl rfl rfl rfl rfl rfl rfl) ?_
    refine aops_nil ?_
    refine ago_condE  E41_7 rfl rfl (fun h => ?_) (fun h => tf h)
    refine ago_seqE E41_8 ?_
    refine ago_cut (fun ρ => ρ 0 = r_0 ∧ True) ⟨h0, trivial⟩ (fun ρ ⟨h0, _⟩ => ?_)
    refine ago_regE E41_9 (l := [0, 1, 2, 3]) rfl ?_
    refine lk (dt := some 23) R41_3_N rfl rfl rfl (opv_move rfl rfl h0) ?_
    obtain ⟨hp16, H⟩ := H
    refine lk (dt := some 24) R41_3_N rfl rfl rfl (ov_nck rfl rfl rfl hp16) ?_
    obtain ⟨b18, i19, p17, hp20, hv21, H⟩ := H
    refine lk (dt := some 25) R41_3_N rfl rfl rfl (ov_fldA rfl rfl underlying94 rfl sz3 (by decide) rfl hp20 rfl hv21) ?_
    obtain ⟨b23, i24, aw22, hp25, hw26, ho27, ha28, H⟩ := H
    refine lk (dt := none) R41_3_N rfl rfl rfl (ov_st rfl rfl rfl rfl rfl rfl sz3 hp25 hw26 ho27 ha28) ?_
    refine aops_nil ?_
    refine ago_seqE E41_10 ?_
    refine ago_regE E41_11 (l := [0]) rfl ?_
    refine lk (dt := some 4) R41_4_N rfl rfl rfl (opv_assign rfl rfl rfl) ?_
    refine aops_nil ?_
    exact ago_retE E41_12 (r := 0) (ares_1 rfl (oneT rfl)) rfl H
  · replace H := cnd_f H hb14
    refine lk (dt := some 14) R41_2_N rfl rfl ⟨_, rfl, .inl ⟨_, rfl, gq hb14 rfl⟩⟩ (opv_move rfl rfl h1) ?_
    refine lk (dt := some 15) R41_2_N rfl rfl ⟨_, rfl, .inl ⟨_, rfl, gq hb14 rfl⟩⟩ (opv_lt rfl rfl rfl rfl rfl) ?_
    refine lk (dt := some 16) R41_2_N rfl rfl rfl (ov_pickF rfl rfl rfl rfl rfl hb14 rfl) ?_
    refine lk (dt := some 17) R41_2_N rfl rfl rfl (opv_move rfl rfl rfl) ?_
    rcases Bool.eq_false_or_eq_true (decide (most_1 < 0)) with hb29 | hb29
    · replace H := cnd_t H hb29
      refine lk_skip (dt := some 18) R41_2_N rfl rfl ⟨_, rfl, .inl ⟨_, rfl, gq hb29 rfl⟩⟩ ?_
      refine lk_skip (dt := some 19) R41_2_N rfl rfl ⟨_, rfl, .inl ⟨_, rfl, gq hb29 rfl⟩⟩ ?_
      refine lk_skip (dt := some 20) R41_2_N rfl rfl ⟨_, rfl, .inl ⟨_, rfl, gq hb29 rfl⟩⟩ ?_
      refine lk_skip (dt := some 21) R41_2_N rfl rfl ⟨_, rfl, .inl ⟨_, rfl, gq hb29 rfl⟩⟩ ?_
      refine lk (dt := some 22) R41_2_N rfl rfl rfl (ov_pickT rfl rfl rfl rfl rfl hb29 rfl) ?_
      refine aops_nil ?_
      refine ago_condE  E41_7 rfl rfl (fun h => ?_) (fun h => tf h)
      refine ago_seqE E41_8 ?_
      refine ago_cut (fun ρ => ρ 0 = r_0 ∧ True) ⟨h0, trivial⟩ (fun ρ ⟨h0, _⟩ => ?_)
      refine ago_regE E41_9 (l := [0, 1, 2, 3]) rfl ?_
      refine lk (dt := some 23) R41_3_N rfl rfl rfl (opv_move rfl rfl h0) ?_
      obtain ⟨hp31, H⟩ := H
      refine lk (dt := some 24) R41_3_N rfl rfl rfl (ov_nck rfl rfl rfl hp31) ?_
      obtain ⟨b33, i34, p32, hp35, hv36, H⟩ := H
      refine lk (dt := some 25) R41_3_N rfl rfl rfl (ov_fldA rfl rfl underlying94 rfl sz3 (by decide) rfl hp35 rfl hv36) ?_
      obtain ⟨b38, i39, aw37, hp40, hw41, ho42, ha43, H⟩ := H
      refine lk (dt := none) R41_3_N rfl rfl rfl (ov_st rfl rfl rfl rfl rfl rfl sz3 hp40 hw41 ho42 ha43) ?_
      refine aops_nil ?_
      refine ago_seqE E41_10 ?_
      refine ago_regE E41_11 (l := [0]) rfl ?_
      refine lk (dt := some 4) R41_4_N rfl rfl rfl (opv_assign rfl rfl rfl) ?_
      refine aops_nil ?_
      exact ago_retE E41_12 (r := 0) (ares_1 rfl (oneT rfl)) rfl H
    · replace H := cnd_f H hb29
      refine lk (dt := some 18) R41_2_N rfl rfl ⟨_, rfl, .inl ⟨_, rfl, gq hb29 rfl⟩⟩ (opv_move rfl rfl rfl) ?_
      refine lk (dt := some 19) R41_2_N rfl rfl ⟨_, rfl, .inl ⟨_, rfl, gq hb29 rfl⟩⟩ (opv_move rfl rfl h1) ?_
      refine lk (dt := some 20) R41_2_N rfl rfl ⟨_, rfl, .inl ⟨_, rfl, gq hb29 rfl⟩⟩ (opv_conv rfl rfl underlying3 underlying24 rfl) ?_
      refine lk (dt := some 21) R41_2_N rfl rfl ⟨_, rfl, .inl ⟨_, rfl, gq hb29 rfl⟩⟩ (opv_gt rfl rfl rfl rfl rfl) ?_
      refine lk (dt := some 22) R41_2_N rfl rfl rfl (ov_pickF rfl rfl rfl rfl rfl hb29 rfl) ?_
      refine aops_nil ?_
      refine ago_condE  E41_7 rfl rfl (fun hb44 => ?_) (fun hb44 => ?_)
      · replace H := cnd_t H hb44
        refine ago_seqE E41_8 ?_
        refine ago_cut (fun ρ => ρ 0 = r_0 ∧ True) ⟨h0, trivial⟩ (fun ρ ⟨h0, _⟩ => ?_)
        refine ago_regE E41_9 (l := [0, 1, 2, 3]) rfl ?_
        refine lk (dt := some 23) R41_3_N rfl rfl rfl (opv_move rfl rfl h0) ?_
        obtain ⟨hp45, H⟩ := H
        refine lk (dt := some 24) R41_3_N rfl rfl rfl (ov_nck rfl rfl rfl hp45) ?_
        obtain ⟨b47, i48, p46, hp49, hv50, H⟩ := H
        refine lk (dt := some 25) R41_3_N rfl rfl rfl (ov_fldA rfl rfl underlying94 rfl sz3 (by decide) rfl hp49 rfl hv50) ?_
        obtain ⟨b52, i53, aw51, hp54, hw55, ho56, ha57, H⟩ := H
        refine lk (dt := none) R41_3_N rfl rfl rfl (ov_st rfl rfl rfl rfl rfl rfl sz3 hp54 hw55 ho56 ha57) ?_
        refine aops_nil ?_
        refine ago_seqE E41_10 ?_
        refine ago_regE E41_11 (l := [0]) rfl ?_
        refine lk (dt := some 4) R41_4_N rfl rfl rfl (opv_assign rfl rfl rfl) ?_
        refine aops_nil ?_
        exact ago_retE E41_12 (r := 0) (ares_1 rfl (oneT rfl)) rfl H
      · replace H := cnd_f H hb44
        refine ago_skipE E41_13 ?_
        refine ago_seqE E41_14 ?_
        refine ago_cut (fun ρ => ρ 5 = .int .u64 r1 ∧ True) ⟨rfl, trivial⟩ (fun ρ ⟨h5, _⟩ => ?_)
        refine ago_regE E41_15 (l := [0, 1, 2]) rfl ?_
        refine lk (dt := some 26) R41_5_N rfl rfl rfl (opv_move rfl rfl h5) ?_
        refine lk (dt := some 27) R41_5_N rfl rfl rfl (opv_conv rfl rfl underlying24 underlying3 rfl) ?_
        refine lk (dt := some 4) R41_5_N rfl rfl rfl (opv_assign rfl rfl rfl) ?_
        refine aops_nil ?_
        exact ago_retE E41_16 (r := (IntKind.i64.wrap r1)) (ares_1 rfl (oneT rfl)) rfl H
theorem F41_ok {Q : Int → AW → Prop} {E : List PanicEntry → AW → Prop} (r_0 : Value) (most_1 : Int) (aw : AW) (H : S41_0 Q E r_0 most_1 aw) : CallP prog 41 [r_0, .int .i64 most_1] aw sh41 Q E :=
  callP_of func41 C41_is rfl (Nat.le_of_ble_eq_true rfl) (S41_0_ok Q E _ r_0 most_1 aw rfl rfl H)
def C42_0 : Code := bodyOf f42
theorem C42_is : f42.body = some C42_0 := by kernel_rfl
def C42_1 : Code := cl C42_0
def R42_0 : Array Oper := regOps C42_1
def C42_2 : Code := cr C42_0
def C42_3 : Code := cl C42_2
def R42_1 : Array Oper := regOps C42_3
def C42_4 : Code := cr C42_2
def C42_5 : Code := cl C42_4
def C42_6 : Code := cl C42_5
def R42_2 : Array Oper := regOps C42_6
def C42_7 : Code := cr C42_5
def C42_8 : Code := cl C42_7
def C42_9 : Code := cl C42_8
def R42_3 : Array Oper := regOps C42_9
def C42_10 : Code := cr C42_8
def C42_11 : Code := cr C42_7
def C42_12 : Code := cr C42_4
def C42_13 : Code := cl C42_12
def R42_4 : Array Oper := regOps C42_13
def C42_14 : Code := cr C42_12
theorem R42_0_N : dstsOk 17 R42_0 = true := by decide +kernel
theorem E42_1 : C42_1 = .region 0 R42_0 false := rfl
theorem R42_1_N : dstsOk 17 R42_1 = true := by decide +kernel
theorem E42_3 : C42_3 = .region 1 R42_1 false := rfl
theorem R42_2_N : dstsOk 17 R42_2 = true := by decide +kernel
theorem E42_6 : C42_6 = .region 2 R42_2 false := rfl
theorem R42_3_N : dstsOk 17 R42_3 = true := by decide +kernel
theorem E42_9 : C42_9 = .region 3 R42_3 false := rfl
theorem E42_10 : C42_10 = .ret := rfl
theorem E42_8 : C42_8 = .seq C42_9 C42_10 := rfl
theorem E42_11 : C42_11 = .skip := rfl
theorem E42_7 : C42_7 = .cond (.tmp 8) C42_8 C42_11 := rfl
theorem E42_5 : C42_5 = .seq C42_6 C42_7 := rfl
theorem R42_4_N : dstsOk 17 R42_4 = true := by decide +kernel
theorem E42_13 : C42_13 = .region 4 R42_4 false := rfl
theorem E42_14 : C42_14 = .ret := rfl
theorem E42_12 : C42_12 = .seq C42_13 C42_14 := rfl
theorem E42_4 : C42_4 = .seq C42_5 C42_12 := rfl
theorem E42_2 : C42_2 = .seq C42_3 C42_4 := rfl
theorem E42_0 : C42_0 = .seq C42_1 C42_2 := rfl
def S42_0 (Q : Int → AW → Prop) (E : List PanicEntry → AW → Prop)  (r_0 : Value) (aw : AW) : Prop :=
  CallP prog 43 [r_0] aw sh43 (fun r1 aw2 =>
  cnd (decide ((Int.tmod r1 2) = 1)) (Q (IntKind.i64.wrap ((IntKind.i64.wrap (-(IntKind.i64.wrap (IntKind.u64.wrap (Int.tdiv r1 2))))) - 1)) aw2) (Q (IntKind.i64.wrap (IntKind.u64.wrap (Int.tdiv r1 2))) aw2)) E
theorem S42_0_ok (Q : Int → AW → Prop) (E : List PanicEntry → AW → Prop)  (ρ : Env) (r_0 : Value) (aw : AW) (h0 : ρ 0 = r_0) (H : S42_0 Q E  r_0 aw) :
    AGo prog 17 [.code C42_0] ρ [] aw (RR prog f42 17 sh42 Q E) := by
  unfold S42_0 at H
  refine ago_seqE E42_0 ?_
  refine ago_regE E42_1 (l := [0]) rfl ?_
  refine lk (dt := some 2) R42_0_N rfl rfl rfl (opv_assign rfl rfl rfl) ?_
  refine aops_nil ?_
  refine ago_seqE E42_2 ?_
  refine ago_regE E42_3 (l := [0, 1, 2]) rfl ?_
  refine lk (dt := some 4) R42_1_N rfl rfl rfl (opv_move rfl rfl h0) ?_
  refine lk_call (dt := some 5) R42_1_N rfl rfl rfl (opc_of rfl rfl is43 (ma_cons rfl rfl)) H (fun _ _ h => ⟨rfl, h⟩) fun r1 aw2 H => ?_
  refine lk (dt := some 3) R42_1_N rfl rfl rfl (opv_assign rfl rfl rfl) ?_
  refine aops_nil ?_
  refine ago_seqE E42_4 ?_
  refine ago_seqE E42_5 ?_
  refine ago_regE E42_6 (l := [0, 1, 2]) rfl ?_
  refine lk (dt := some 6) R42_2_N rfl rfl rfl (opv_move rfl rfl rfl) ?_
  refine lk (dt := some 7) R42_2_N rfl rfl rfl (opv_rem rfl rfl rfl rfl rfl (by decide)) ?_
  refine lk (dt := some 8) R42_2_N rfl rfl rfl (opv_eqI rfl rfl rfl rfl rfl) ?_
  refine aops_nil ?_
  refine ago_condE  E42_7 rfl rfl (fun hb3 => ?_) (fun hb3 => ?_)
  · replace H := cnd_t H hb3
    refine ago_seqE E42_8 ?_
    refine ago_regE E42_9 (l := [0, 1, 2, 3, 4, 5]) rfl ?_
    refine lk (dt := some 9) R42_3_N rfl rfl rfl (opv_move rfl rfl rfl) ?_
    refine lk (dt := some 10) R42_3_N rfl rfl rfl (opv_quo rfl rfl rfl rfl rfl (by decide)) ?_
    refine lk (dt := some 11) R42_3_N rfl rfl rfl (opv_conv rfl rfl underlying24 underlying2 rfl) ?_
    refine lk (dt := some 12) R42_3_N rfl rfl rfl (opv_neg rfl rfl rfl) ?_
    refine lk (dt := some 13) R42_3_N rfl rfl rfl (opv_sub rfl rfl rfl rfl rfl) ?_
    refine lk (dt := some 2) R42_3_N rfl rfl rfl (opv_assign rfl rfl rfl) ?_
    refine aops_nil ?_
    exact ago_retE E42_10 (r := (IntKind.i64.wrap ((IntKind.i64.wrap (-(IntKind.i64.wrap (IntKind.u64.wrap (Int.tdiv r1 2))))) - 1))) (ares_1 rfl (oneT rfl)) rfl H
  · replace H := cnd_f H hb3
    refine ago_skipE E42_11 ?_
    refine ago_seqE E42_12 ?_
    refine ago_regE E42_13 (l := [0, 1, 2, 3]) rfl ?_
    refine lk (dt := some 14) R42_4_N rfl rfl rfl (opv_move rfl rfl rfl) ?_
    refine lk (dt := some 15) R42_4_N rfl rfl rfl (opv_quo rfl rfl rfl rfl rfl (by decide)) ?_
    refine lk (dt := some 16) R42_4_N rfl rfl rfl (opv_conv rfl rfl underlying24 underlying2 rfl) ?_
    refine lk (dt := some 2) R42_4_N rfl rfl rfl (opv_assign rfl rfl rfl) ?_
    refine aops_nil ?_
    exact ago_retE E42_14 (r := (IntKind.i64.wrap (IntKind.u64.wrap (Int.tdiv r1 2)))) (ares_1 rfl (oneT rfl)) rfl H
theorem F42_ok {Q : Int → AW → Prop} {E : List PanicEntry → AW → Prop} (r_0 : Value) (aw : AW) (H : S42_0 Q E r_0 aw) : CallP prog 42 [r_0] aw sh42 Q E :=
  callP_of func42 C42_is rfl (Nat.le_of_ble_eq_true rfl) (S42_0_ok Q E _ r_0 aw rfl H)
def C44_0 : Code := bodyOf f44
theorem C44_is : f44.body = some C44_0 := by kernel_rfl
def C44_1 : Code := cl C44_0
def R44_0 : Array Oper := regOps C44_1
def C44_2 : Code := cr C44_0
def C44_3 : Code := cl C44_2
def R44_1 : Array Oper := regOps C44_3
def C44_4 : Code := cr C44_2
def C44_5 : Code := cl C44_4
def C44_6 : Code := cl C44_5
def R44_2 : Array Oper := regOps C44_6
def C44_7 : Code := cr C44_5
def C44_8 : Code := cl C44_7
def C44_9 : Code := cl C44_8
def R44_3 : Array Oper := regOps C44_9
def C44_10 : Code := cr C44_8
def C44_11 : Code := cl C44_10
def R44_4 : Array Oper := regOps C44_11
def C44_12 : Code := cr C44_10
def C44_13 : Code := cr C44_7
def C44_14 : Code := cr C44_4
def C44_15 : Code := cl C44_14
def R44_5 : Array Oper := regOps C44_15
def C44_16 : Code := cr C44_14
def C44_17 : Code := cl C44_16
def R44_6 : Array Oper := regOps C44_17
def C44_18 : Code := cr C44_16
def C44_19 : Code := cl C44_18
def R44_7 : Array Oper := regOps C44_19
def C44_20 : Code := cr C44_18
theorem R44_0_N : dstsOk 56 R44_0 = true := by decide +kernel
theorem E44_1 : C44_1 = .region 0 R44_0 false := rfl
theorem R44_1_N : dstsOk 56 R44_1 = true := by decide +kernel
theorem E44_3 : C44_3 = .region 1 R44_1 false := rfl
theorem R44_2_N : dstsOk 56 R44_2 = true := by decide +kernel
theorem R44_2_O : linOk R44_2 [0, 1, 2, 3, 4, 5, 6, 7, 8, 9, 10, 11, 12, 13, 14, 15, 16, 17, 18] [] = true := by decide +kernel
theorem E44_6 : C44_6 = .region 2 R44_2 true := rfl
theorem R44_3_N : dstsOk 56 R44_3 = true := by decide +kernel
theorem E44_9 : C44_9 = .region 3 R44_3 false := rfl
theorem R44_4_N : dstsOk 56 R44_4 = true := by decide +kernel
theorem E44_11 : C44_11 = .region 4 R44_4 false := rfl
theorem E44_12 : C44_12 = .ret := rfl
theorem E44_10 : C44_10 = .seq C44_11 C44_12 := rfl
theorem E44_8 : C44_8 = .seq C44_9 C44_10 := rfl
theorem E44_13 : C44_13 = .skip := rfl
theorem E44_7 : C44_7 = .cond (.tmp 28) C44_8 C44_13 := rfl
theorem E44_5 : C44_5 = .seq C44_6 C44_7 := rfl
theorem R44_5_N : dstsOk 56 R44_5 = true := by decide +kernel
theorem R44_5_O : linOk R44_5 [0, 1, 2, 3, 4, 5, 6, 7, 8, 9, 10, 11, 12, 13, 14, 15] [] = true := by decide +kernel
theorem E44_15 : C44_15 = .region 5 R44_5 true := rfl
theorem R44_6_N : dstsOk 56 R44_6 = true := by decide +kernel
theorem E44_17 : C44_17 = .region 6 R44_6 false := rfl
theorem R44_7_N : dstsOk 56 R44_7 = true := by decide +kernel
theorem E44_19 : C44_19 = .region 7 R44_7 false := rfl
theorem E44_20 : C44_20 = .ret := rfl
theorem E44_18 : C44_18 = .seq C44_19 C44_20 := rfl
theorem E44_16 : C44_16 = .seq C44_17 C44_18 := rfl
theorem E44_14 : C44_14 = .seq C44_15 C44_16 := rfl
theorem E44_4 : C44_4 = .seq C44_5 C44_14 := rfl
theorem E44_2 : C44_2 = .seq C44_3 C44_4 := rfl
theorem E44_0 : C44_0 = .seq C44_1 C44_2 := rfl
def S44_1 (Q : Value → AW → Prop) (E : List PanicEntry → AW → Prop)  (r_0 : Value) (n_5 : Int) (t_28 : Bool) (aw : AW) : Prop :=
  cnd t_28 (nck r_0 (fldA r_0 1 fun p3 =>
  st aw p3 [.int .i64 (-1)] fun aw8 =>
  Q (.slice none 0 0) aw8)) (nck r_0 (fldA r_0 0 fun p16 =>
  ldV aw p16 fun x24 =>
  nck r_0 (fldA r_0 1 fun p27 =>
  ldI .i64 aw p27 fun x35 =>
  nck r_0 (fldA r_0 1 fun p38 =>
  ldI .i64 aw p38 fun x46 =>
  cutV aw 1 x24 x35 (IntKind.i64.wrap (x46 + n_5)) fun v48 =>
  nck r_0 (fldA r_0 1 fun p51 =>
  ldI .i64 aw p51 fun x59 =>
  nck r_0 (fldA r_0 1 fun p62 =>
  st aw p62 [.int .i64 (IntKind.i64.wrap (x59 + n_5))] fun aw67 =>
  Q v48 aw67))))))
def S44_0 (Q : Value → AW → Prop) (E : List PanicEntry → AW → Prop)  (r_0 : Value) (most_1 : Int) (aw : AW) : Prop :=
  CallP prog 41 [r_0, .int .i64 most_1] aw sh41 (fun r74 aw75 =>
  nck r_0 (fldA r_0 1 fun p77 =>
  ldI .i64 aw75 p77 fun x85 =>
  cnd (decide (x85 < 0)) (S44_1 Q E  r_0 r74 true aw75) (nck r_0 (fldA r_0 0 fun p89 =>
  ldV aw75 p89 fun x97 =>
  slen x97 fun n99 =>
  nck r_0 (fldA r_0 1 fun p106 =>
  ldI .i64 aw75 p106 fun x114 =>
  S44_1 Q E  r_0 r74 (decide ((IntKind.i64.wrap (n99 - x114)) < r74)) aw75))))) E
theorem S44_1_ok (Q : Value → AW → Prop) (E : List PanicEntry → AW → Prop)  (ρ : Env) (r_0 : Value) (n_5 : Int) (t_28 : Bool) (aw : AW) (h0 : ρ 0 = r_0) (h5 : ρ 5 = .int .i64 n_5) (h28 : ρ 28 = .bool t_28) (H : S44_1 Q E  r_0 n_5 t_28 aw) :
    AGo prog 56 [.code C44_7, .code C44_14] ρ [] aw (RR prog f44 56 sh44 Q E) := by
  unfold S44_1 at H
  refine ago_condE  E44_7 rfl h28 (fun hb1 => ?_) (fun hb1 => ?_)
  · replace H := cnd_t H hb1
    refine ago_seqE E44_8 ?_
    refine ago_regE E44_9 (l := [0, 1, 2, 3]) rfl ?_
    refine lk (dt := some 29) R44_3_N rfl rfl rfl (opv_move rfl rfl h0) ?_
    obtain ⟨hp2, H⟩ := H
    refine lk (dt := some 30) R44_3_N rfl rfl rfl (ov_nck rfl rfl rfl hp2) ?_
    obtain ⟨b4, i5, p3, hp6, hv7, H⟩ := H
    refine lk (dt := some 31) R44_3_N rfl rfl rfl (ov_fldA rfl rfl underlying94 rfl sz3 (by decide) rfl hp6 rfl hv7) ?_
    obtain ⟨b9, i10, aw8, hp11, hw12, ho13, ha14, H⟩ := H
    refine lk (dt := none) R44_3_N rfl rfl rfl (ov_st rfl rfl rfl rfl rfl rfl sz3 hp11 hw12 ho13 ha14) ?_
    refine aops_nil ?_
    refine ago_seqE E44_10 ?_
    refine ago_regE E44_11 (l := [0]) rfl ?_
    refine lk (dt := some 4) R44_4_N rfl rfl rfl (opv_assign rfl rfl rfl) ?_
    refine aops_nil ?_
    exact ago_retE E44_12 (r := (.slice none 0 0)) (ares_1 rfl (oneT rfl)) rfl H
  · replace H := cnd_f H hb1
    refine ago_skipE E44_13 ?_
    refine ago_seqE E44_14 ?_
    obtain ⟨hp15, H⟩ := H
    obtain ⟨b17, i18, p16, hp19, hv20, H⟩ := H
    obtain ⟨b21, i22, x24, hp23, hg25, H⟩ := H
    obtain ⟨hp26, H⟩ := H
    obtain ⟨b28, i29, p27, hp30, hv31, H⟩ := H
    obtain ⟨b32, i33, x35, hp34, hg36, H⟩ := H
    obtain ⟨hp37, H⟩ := H
    obtain ⟨b39, i40, p38, hp41, hv42, H⟩ := H
    obtain ⟨b43, i44, x46, hp45, hg47, H⟩ := H
    obtain ⟨v48, hq49, H⟩ := H
    refine ago_drawH (p := [0, 1, 2, 3, 4, 5, 6, 7, 8, 9, 10, 11, 12, 13, 14, 15]) (tl := []) (hv := [(0, r_0), (1, r_0), (2, p16), (3, x24), (4, r_0), (5, r_0), (6, p27), (7, Value.int .i64 x35), (8, r_0), (9, r_0), (10, p38), (11, Value.int .i64 x46), (12, Value.int .i64 n_5), (13, Value.int .i64 (IntKind.i64.wrap (x46 + n_5))), (14, v48), (15, v48)]) E44_15 mixed R44_5_N R44_5_O rfl (pv_cons rfl (pv_cons rfl (pv_cons rfl (pv_cons rfl (pv_cons rfl (pv_cons rfl (pv_cons rfl (pv_cons rfl (pv_cons rfl (pv_cons rfl (pv_cons rfl (pv_cons rfl (pv_cons rfl (pv_cons rfl (pv_cons rfl (pv_cons rfl (pv_nil _)))))))))))))))))
      (ffc (d := 32) (v := r_0) (hd_v rfl fun ρ hρ => ⟨rfl, opv_move rfl rfl ((hρ 0 (lmem rfl)).trans h0)⟩) rfl rfl
      (ffc (d := 33) (v := r_0) (hd_v rfl fun ρ hρ => ⟨rfl, ov_nck rfl rfl ((hρ 32 (lmem rfl)).trans rfl) hp15⟩) rfl rfl
      (ffc (d := 34) (v := p16) (hd_v rfl fun ρ hρ => ⟨rfl, ov_fldA rfl rfl underlying94 rfl sz25 (by decide) ((hρ 33 (lmem rfl)).trans rfl) hp19 rfl hv20⟩) rfl rfl
      (ffc (d := 35) (v := x24) (hd_v rfl fun ρ hρ => ⟨rfl, ov_ldV rfl underlying25 rfl rfl ((hρ 34 (lmem rfl)).trans rfl) hp23 hg25⟩) rfl rfl
      (ffc (d := 36) (v := r_0) (hd_v rfl fun ρ hρ => ⟨rfl, opv_move rfl rfl ((hρ 0 (lmem rfl)).trans h0)⟩) rfl rfl
      (ffc (d := 37) (v := r_0) (hd_v rfl fun ρ hρ => ⟨rfl, ov_nck rfl rfl ((hρ 36 (lmem rfl)).trans rfl) hp26⟩) rfl rfl
      (ffc (d := 38) (v := p27) (hd_v rfl fun ρ hρ => ⟨rfl, ov_fldA rfl rfl underlying94 rfl sz3 (by decide) ((hρ 37 (lmem rfl)).trans rfl) hp30 rfl hv31⟩) rfl rfl
      (ffc (d := 39) (v := .int .i64 x35) (hd_v rfl fun ρ hρ => ⟨rfl, ov_ldI rfl underlying3 rfl ((hρ 38 (lmem rfl)).trans rfl) hp34 hg36⟩) rfl rfl
      (ffc (d := 40) (v := r_0) (hd_v rfl fun ρ hρ => ⟨rfl, opv_move rfl rfl ((hρ 0 (lmem rfl)).trans h0)⟩) rfl rfl
      (ffc (d := 41) (v := r_0) (hd_v rfl fun ρ hρ => ⟨rfl, ov_nck rfl rfl ((hρ 40 (lmem rfl)).trans rfl) hp37⟩) rfl rfl
      (ffc (d := 42) (v := p38) (hd_v rfl fun ρ hρ => ⟨rfl, ov_fldA rfl rfl underlying94 rfl sz3 (by decide) ((hρ 41 (lmem rfl)).trans rfl) hp41 rfl hv42⟩) rfl rfl
      (ffc (d := 43) (v := .int .i64 x46) (hd_v rfl fun ρ hρ => ⟨rfl, ov_ldI rfl underlying3 rfl ((hρ 42 (lmem rfl)).trans rfl) hp45 hg47⟩) rfl rfl
      (ffc (d := 44) (v := .int .i64 n_5) (hd_v rfl fun ρ hρ => ⟨rfl, opv_move rfl rfl ((hρ 5 (lmem rfl)).trans h5)⟩) rfl rfl
      (ffc (d := 45) (v := .int .i64 (IntKind.i64.wrap (x46 + n_5))) (hd_v rfl fun ρ hρ => ⟨rfl, opv_add rfl rfl rfl ((hρ 43 (lmem rfl)).trans rfl) ((hρ 44 (lmem rfl)).trans rfl)⟩) rfl rfl
      (ffc (d := 46) (v := v48) (hd_v rfl fun ρ hρ => ⟨rfl, ov_cutV rfl rfl underlying25 sz5 ((hρ 35 (lmem rfl)).trans rfl) (bndS ((hρ 39 (lmem rfl)).trans rfl)) (bndS ((hρ 45 (lmem rfl)).trans rfl)) hq49⟩) rfl rfl
      (ffc (d := 6) (v := v48) (hd_v rfl fun ρ hρ => ⟨rfl, opv_assign rfl rfl ((hρ 46 (lmem rfl)).trans rfl)⟩) rfl rfl
      ffn)))))))))))))))) ?_
    refine lt_end ?_
    refine ago_seqE E44_16 ?_
    refine ago_cut (fun ρ => ρ 0 = r_0 ∧ ρ 5 = .int .i64 n_5 ∧ ρ 6 = v48 ∧ True) ⟨h0, h5, rfl, trivial⟩ (fun ρ ⟨h0, h5, h6, _⟩ => ?_)
    refine ago_regE E44_17 (l := [0, 1, 2, 3, 4, 5, 6, 7, 8]) rfl ?_
    refine lk (dt := some 47) R44_6_N rfl rfl rfl (opv_move rfl rfl h0) ?_
    obtain ⟨hp50, H⟩ := H
    refine lk (dt := some 48) R44_6_N rfl rfl rfl (ov_nck rfl rfl rfl hp50) ?_
    obtain ⟨b52, i53, p51, hp54, hv55, H⟩ := H
    refine lk (dt := some 49) R44_6_N rfl rfl rfl (ov_fldA rfl rfl underlying94 rfl sz3 (by decide) rfl hp54 rfl hv55) ?_
    obtain ⟨b56, i57, x59, hp58, hg60, H⟩ := H
    refine lk (dt := some 50) R44_6_N rfl rfl rfl (ov_ldI rfl underlying3 rfl rfl hp58 hg60) ?_
    refine lk (dt := some 51) R44_6_N rfl rfl rfl (opv_move rfl rfl h5) ?_
    refine lk (dt := some 52) R44_6_N rfl rfl rfl (opv_add rfl rfl rfl rfl rfl) ?_
    obtain ⟨hp61, H⟩ := H
    refine lk (dt := some 53) R44_6_N rfl rfl rfl (ov_nck rfl rfl rfl hp61) ?_
    obtain ⟨b63, i64, p62, hp65, hv66, H⟩ := H
    refine lk (dt := some 54) R44_6_N rfl rfl rfl (ov_fldA rfl rfl underlying94 rfl sz3 (by decide) rfl hp65 rfl hv66) ?_
    obtain ⟨b68, i69, aw67, hp70, hw71, ho72, ha73, H⟩ := H
    refine lk (dt := none) R44_6_N rfl rfl rfl (ov_st rfl rfl rfl rfl rfl rfl sz3 hp70 hw71 ho72 ha73) ?_
    refine aops_nil ?_
    refine ago_seqE E44_18 ?_
    refine ago_regE E44_19 (l := [0, 1]) rfl ?_
    refine lk (dt := some 55) R44_7_N rfl rfl rfl (opv_move rfl rfl h6) ?_
    refine lk (dt := some 4) R44_7_N rfl rfl rfl (opv_assign rfl rfl rfl) ?_
    refine aops_nil ?_
    exact ago_retE E44_20 (r := v48) (ares_1 rfl (oneT rfl)) rfl H
theorem S44_0_ok (Q : Value → AW → Prop) (E : List PanicEntry → AW → Prop)  (ρ : Env) (r_0 : Value) (most_1 : Int) (aw : AW) (h0 : ρ 0 = r_0) (h1 : ρ 1 = .int .i64 most_1) (H : S44_0 Q E  r_0 most_1 aw) :
    AGo prog 56 [.code C44_0] ρ [] aw (RR prog f44 56 sh44 Q E) := by
  unfold S44_0 at H
  refine ago_seqE E44_0 ?_
  refine ago_regE E44_1 (l := [0]) rfl ?_
  refine lk (dt := some 4) R44_0_N rfl rfl rfl (opv_assign rfl rfl rfl) ?_
  refine aops_nil ?_
  refine ago_seqE E44_2 ?_
  refine ago_regE E44_3 (l := [0, 1, 2, 3]) rfl ?_
  refine lk (dt := some 7) R44_1_N rfl rfl rfl (opv_move rfl rfl h0) ?_
  refine lk (dt := some 8) R44_1_N rfl rfl rfl (opv_move rfl rfl h1) ?_
  refine lk_call (dt := some 9) R44_1_N rfl rfl rfl (opc_of rfl rfl is41 (ma_cons rfl (ma_cons rfl rfl))) H (fun _ _ h => ⟨rfl, h⟩) fun r74 aw75 H => ?_
  refine lk (dt := some 5) R44_1_N rfl rfl rfl (opv_assign rfl rfl rfl) ?_
  refine aops_nil ?_
  refine ago_seqE E44_4 ?_
  refine ago_seqE E44_5 ?_
  obtain ⟨hp76, H⟩ := H
  obtain ⟨b78, i79, p77, hp80, hv81, H⟩ := H
  obtain ⟨b82, i83, x85, hp84, hg86, H⟩ := H
  rcases Bool.eq_false_or_eq_true (decide (x85 < 0)) with hb87 | hb87
  · replace H := cnd_t H hb87
    refine ago_drawH (p := [0, 1, 2, 3, 4, 5, 6, 7, 8, 9, 10, 11, 12, 13, 14, 15, 16, 17, 18]) (tl := []) (hv := [(0, r_0), (1, r_0), (2, p77), (3, Value.int .i64 x85), (4, Value.bool (decide (x85 < 0))), (5, Value.bool (decide (x85 < 0))), (6, undef), (7, undef), (8, undef), (9, undef), (10, undef), (11, undef), (12, undef), (13, undef), (14, undef), (15, undef), (16, undef), (17, undef), (18, Value.bool true)]) E44_6 mixed R44_2_N R44_2_O rfl (pv_cons rfl (pv_cons rfl (pv_cons rfl (pv_cons rfl (pv_cons rfl (pv_cons rfl (pv_cons rfl (pv_cons rfl (pv_cons rfl (pv_cons rfl (pv_cons rfl (pv_cons rfl (pv_cons rfl (pv_cons rfl (pv_cons rfl (pv_cons rfl (pv_cons rfl (pv_cons rfl (pv_cons rfl (pv_nil _))))))))))))))))))))
      (ffc (d := 10) (v := r_0) (hd_v rfl fun ρ hρ => ⟨rfl, opv_move rfl rfl ((hρ 0 (lmem rfl)).trans h0)⟩) rfl rfl
      (ffc (d := 11) (v := r_0) (hd_v rfl fun ρ hρ => ⟨rfl, ov_nck rfl rfl ((hρ 10 (lmem rfl)).trans rfl) hp76⟩) rfl rfl
      (ffc (d := 12) (v := p77) (hd_v rfl fun ρ hρ => ⟨rfl, ov_fldA rfl rfl underlying94 rfl sz3 (by decide) ((hρ 11 (lmem rfl)).trans rfl) hp80 rfl hv81⟩) rfl rfl
      (ffc (d := 13) (v := .int .i64 x85) (hd_v rfl fun ρ hρ => ⟨rfl, ov_ldI rfl underlying3 rfl ((hρ 12 (lmem rfl)).trans rfl) hp84 hg86⟩) rfl rfl
      (ffc (d := 14) (v := .bool (decide (x85 < 0))) (hd_v rfl fun ρ hρ => ⟨rfl, opv_lt rfl rfl rfl ((hρ 13 (lmem rfl)).trans rfl) rfl⟩) rfl rfl
      (ffc (d := 15) (v := .bool (decide (x85 < 0))) (hd_v rfl fun ρ hρ => ⟨rfl, opv_move rfl rfl ((hρ 14 (lmem rfl)).trans rfl)⟩) rfl rfl
      (ffc (d := 16) (v := undef) (hd_s rfl (fun ρ hρ => ⟨_, rfl, .inl ⟨_, ((hρ 15 (lmem rfl)).trans rfl), gq hb87 rfl⟩⟩) rfl) rfl rfl
      (ffc (d := 17) (v := undef) (hd_s rfl (fun ρ hρ => ⟨_, rfl, .inl ⟨_, ((hρ 15 (lmem rfl)).trans rfl), gq hb87 rfl⟩⟩) rfl) rfl rfl
      (ffc (d := 18) (v := undef) (hd_s rfl (fun ρ hρ => ⟨_, rfl, .inl ⟨_, ((hρ 15 (lmem rfl)).trans rfl), gq hb87 rfl⟩⟩) rfl) rfl rfl
      (ffc (d := 19) (v := undef) (hd_s rfl (fun ρ hρ => ⟨_, rfl, .inl ⟨_, ((hρ 15 (lmem rfl)).trans rfl), gq hb87 rfl⟩⟩) rfl) rfl rfl
      (ffc (d := 20) (v := undef) (hd_s rfl (fun ρ hρ => ⟨_, rfl, .inl ⟨_, ((hρ 15 (lmem rfl)).trans rfl), gq hb87 rfl⟩⟩) rfl) rfl rfl
      (ffc (d := 21) (v := undef) (hd_s rfl (fun ρ hρ => ⟨_, rfl, .inl ⟨_, ((hρ 15 (lmem rfl)).trans rfl), gq hb87 rfl⟩⟩) rfl) rfl rfl
      (ffc (d := 22) (v := undef) (hd_s rfl (fun ρ hρ => ⟨_, rfl, .inl ⟨_, ((hρ 15 (lmem rfl)).trans rfl), gq hb87 rfl⟩⟩) rfl) rfl rfl
      (ffc (d := 23) (v := undef) (hd_s rfl (fun ρ hρ => ⟨_, rfl, .inl ⟨_, ((hρ 15 (lmem rfl)).trans rfl), gq hb87 rfl⟩⟩) rfl) rfl rfl
      (ffc (d := 24) (v := undef) (hd_s rfl (fun ρ hρ => ⟨_, rfl, .inl ⟨_, ((hρ 15 (lmem rfl)).trans rfl), gq hb87 rfl⟩⟩) rfl) rfl rfl
      (ffc (d := 25) (v := undef) (hd_s rfl (fun ρ hρ => ⟨_, rfl, .inl ⟨_, ((hρ 15 (lmem rfl)).trans rfl), gq hb87 rfl⟩⟩) rfl) rfl rfl
      (ffc (d := 26) (v := undef) (hd_s rfl (fun ρ hρ => ⟨_, rfl, .inl ⟨_, ((hρ 15 (lmem rfl)).trans rfl), gq hb87 rfl⟩⟩) rfl) rfl rfl
      (ffc (d := 27) (v := undef) (hd_s rfl (fun ρ hρ => ⟨_, rfl, .inl ⟨_, ((hρ 15 (lmem rfl)).trans rfl), gq hb87 rfl⟩⟩) rfl) rfl rfl
      (ffc (d := 28) (v := .bool true) (hd_v rfl fun ρ hρ => ⟨rfl, ov_pickT rfl rfl rfl rfl ((hρ 15 (lmem rfl)).trans rfl) hb87 rfl⟩) rfl rfl
      ffn))))))))))))))))))) ?_
    refine lt_end ?_
    exact S44_1_ok Q E  _ r_0 r74 true aw75 h0 rfl rfl H
  · replace H := cnd_f H hb87
    obtain ⟨hp88, H⟩ := H
    obtain ⟨b90, i91, p89, hp92, hv93, H⟩ := H
    obtain ⟨b94, i95, x97, hp96, hg98, H⟩ := H
    obtain ⟨q100, l101, c102, n99, hv103, hn104, H⟩ := H
    obtain ⟨hp105, H⟩ := H
    obtain ⟨b107, i108, p106, hp109, hv110, H⟩ := H
    obtain ⟨b111, i112, x114, hp113, hg115, H⟩ := H
    refine ago_drawH (p := [0, 1, 2, 3, 4, 5, 6, 7, 8, 9, 10, 11, 12, 13, 14, 15, 16, 17, 18]) (tl := []) (hv := [(0, r_0), (1, r_0), (2, p77), (3, Value.int .i64 x85), (4, Value.bool (decide (x85 < 0))), (5, Value.bool (decide (x85 < 0))), (6, Value.int .i64 r74), (7, r_0), (8, r_0), (9, p89), (10, x97), (11, Value.int .i64 n99), (12, r_0), (13, r_0), (14, p106), (15, Value.int .i64 x114), (16, Value.int .i64 (IntKind.i64.wrap (n99 - x114))), (17, Value.bool (decide ((IntKind.i64.wrap (n99 - x114)) < r74))), (18, Value.bool (decide ((IntKind.i64.wrap (n99 - x114)) < r74)))]) E44_6 mixed R44_2_N R44_2_O rfl (pv_cons rfl (pv_cons rfl (pv_cons rfl (pv_cons rfl (pv_cons rfl (pv_cons rfl (pv_cons rfl (pv_cons rfl (pv_cons rfl (pv_cons rfl (pv_cons rfl (pv_cons rfl (pv_cons rfl (pv_cons rfl (pv_cons rfl (pv_cons rfl (pv_cons rfl (pv_cons rfl (pv_cons rfl (pv_nil _))))))))))))))))))))
      (ffc (d := 10) (v := r_0) (hd_v rfl fun ρ hρ => ⟨rfl, opv_move rfl rfl ((hρ 0 (lmem rfl)).trans h0)⟩) rfl rfl
      (ffc (d := 11) (v := r_0) (hd_v rfl fun ρ hρ => ⟨rfl, ov_nck rfl rfl ((hρ 10 (lmem rfl)).trans rfl) hp76⟩) rfl rfl
      (ffc (d := 12) (v := p77) (hd_v rfl fun ρ hρ => ⟨rfl, ov_fldA rfl rfl underlying94 rfl sz3 (by decide) ((hρ 11 (lmem rfl)).trans rfl) hp80 rfl hv81⟩) rfl rfl
      (ffc (d := 13) (v := .int .i64 x85) (hd_v rfl fun ρ hρ => ⟨rfl, ov_ldI rfl underlying3 rfl ((hρ 12 (lmem rfl)).trans rfl) hp84 hg86⟩) rfl rfl
      (ffc (d := 14) (v := .bool (decide (x85 < 0))) (hd_v rfl fun ρ hρ => ⟨rfl, opv_lt rfl rfl rfl ((hρ 13 (lmem rfl)).trans rfl) rfl⟩) rfl rfl
      (ffc (d := 15) (v := .bool (decide (x85 < 0))) (hd_v rfl fun ρ hρ => ⟨rfl, opv_move rfl rfl ((hρ 14 (lmem rfl)).trans rfl)⟩) rfl rfl
      (ffc (d := 16) (v := .int .i64 r74) (hd_v rfl fun ρ hρ => ⟨⟨_, rfl, .inl ⟨_, ((hρ 15 (lmem rfl)).trans rfl), gq hb87 rfl⟩⟩, opv_move rfl rfl ((hρ 5 (lmem rfl)).trans rfl)⟩) rfl rfl
      (ffc (d := 17) (v := r_0) (hd_v rfl fun ρ hρ => ⟨⟨_, rfl, .inl ⟨_, ((hρ 15 (lmem rfl)).trans rfl), gq hb87 rfl⟩⟩, opv_move rfl rfl ((hρ 0 (lmem rfl)).trans h0)⟩) rfl rfl
      (ffc (d := 18) (v := r_0) (hd_v rfl fun ρ hρ => ⟨⟨_, rfl, .inl ⟨_, ((hρ 15 (lmem rfl)).trans rfl), gq hb87 rfl⟩⟩, ov_nck rfl rfl ((hρ 17 (lmem rfl)).trans rfl) hp88⟩) rfl rfl
      (ffc (d := 19) (v := p89) (hd_v rfl fun ρ hρ => ⟨⟨_, rfl, .inl ⟨_, ((hρ 15 (lmem rfl)).trans rfl), gq hb87 rfl⟩⟩, ov_fldA rfl rfl underlying94 rfl sz25 (by decide) ((hρ 18 (lmem rfl)).trans rfl) hp92 rfl hv93⟩) rfl rfl
      (ffc (d := 20) (v := x97) (hd_v rfl fun ρ hρ => ⟨⟨_, rfl, .inl ⟨_, ((hρ 15 (lmem rfl)).trans rfl), gq hb87 rfl⟩⟩, ov_ldV rfl underlying25 rfl rfl ((hρ 19 (lmem rfl)).trans rfl) hp96 hg98⟩) rfl rfl
      (ffc (d := 21) (v := .int .i64 n99) (hd_v rfl fun ρ hρ => ⟨⟨_, rfl, .inl ⟨_, ((hρ 15 (lmem rfl)).trans rfl), gq hb87 rfl⟩⟩, ov_len rfl rfl rfl underlying25 ((hρ 20 (lmem rfl)).trans rfl) hv103 hn104⟩) rfl rfl
      (ffc (d := 22) (v := r_0) (hd_v rfl fun ρ hρ => ⟨⟨_, rfl, .inl ⟨_, ((hρ 15 (lmem rfl)).trans rfl), gq hb87 rfl⟩⟩, opv_move rfl rfl ((hρ 0 (lmem rfl)).trans h0)⟩) rfl rfl
      (ffc (d := 23) (v := r_0) (hd_v rfl fun ρ hρ => ⟨⟨_, rfl, .inl ⟨_, ((hρ 15 (lmem rfl)).trans rfl), gq hb87 rfl⟩⟩, ov_nck rfl rfl ((hρ 22 (lmem rfl)).trans rfl) hp105⟩) rfl rfl
      (ffc (d := 24) (v := p106) (hd_v rfl fun ρ hρ => ⟨⟨_, rfl, .inl ⟨_, ((hρ 15 (lmem rfl)).trans rfl), gq hb87 rfl⟩⟩, ov_fldA rfl rfl underlying94 rfl sz3 (by decide) ((hρ 23 (lmem rfl)).trans rfl) hp109 rfl hv110⟩) rfl rfl
      (ffc (d := 25) (v := .int .i64 x114) (hd_v rfl fun ρ hρ => ⟨⟨_, rfl, .inl ⟨_, ((hρ 15 (lmem rfl)).trans rfl), gq hb87 rfl⟩⟩, ov_ldI rfl underlying3 rfl ((hρ 24 (lmem rfl)).trans rfl) hp113 hg115⟩) rfl rfl
      (ffc (d := 26) (v := .int .i64 (IntKind.i64.wrap (n99 - x114))) (hd_v rfl fun ρ hρ => ⟨⟨_, rfl, .inl ⟨_, ((hρ 15 (lmem rfl)).trans rfl), gq hb87 rfl⟩⟩, opv_sub rfl rfl rfl ((hρ 21 (lmem rfl)).trans rfl) ((hρ 25 (lmem rfl)).trans rfl)⟩) rfl rfl
      (ffc (d := 27) (v := .bool (decide ((IntKind.i64.wrap (n99 - x114)) < r74))) (hd_v rfl fun ρ hρ => ⟨⟨_, rfl, .inl ⟨_, ((hρ 15 (lmem rfl)).trans rfl), gq hb87 rfl⟩⟩, opv_gt rfl rfl rfl ((hρ 16 (lmem rfl)).trans rfl) ((hρ 26 (lmem rfl)).trans rfl)⟩) rfl rfl
      (ffc (d := 28) (v := .bool (decide ((IntKind.i64.wrap (n99 - x114)) < r74))) (hd_v rfl fun ρ hρ => ⟨rfl, ov_pickF rfl rfl rfl rfl ((hρ 15 (lmem rfl)).trans rfl) hb87 ((hρ 27 (lmem rfl)).trans rfl)⟩) rfl rfl
      ffn))))))))))))))))))) ?_
    refine lt_end ?_
    exact S44_1_ok Q E  _ r_0 r74 (decide ((IntKind.i64.wrap (n99 - x114)) < r74)) aw75 h0 rfl rfl H
theorem F44_ok {Q : Value → AW → Prop} {E : List PanicEntry → AW → Prop} (r_0 : Value) (most_1 : Int) (aw : AW) (H : S44_0 Q E r_0 most_1 aw) : CallP prog 44 [r_0, .int .i64 most_1] aw sh44 Q E :=
  callP_of func44 C44_is rfl (Nat.le_of_ble_eq_true rfl) (S44_0_ok Q E _ r_0 most_1 aw rfl rfl H)
end
end Go.Proofs.Try
