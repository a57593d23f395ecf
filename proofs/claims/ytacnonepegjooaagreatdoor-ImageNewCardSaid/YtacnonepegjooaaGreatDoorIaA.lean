/- Printed by a program of the prover: what the Go functions of this seat do, in steps. -/
import Derived.Test.YtacnonepegjooaaGreatDoorIaF
set_option linter.unusedSectionVars false
set_option linter.unusedSimpArgs false
set_option linter.unusedVariables false
namespace Go.Proofs.Tryz
open Go Go.Am Go.RowKit
set_option maxHeartbeats 4000000
set_option maxRecDepth 100000
noncomputable section
variable [SymE]
def C64_0 : Code := bodyOf f64
theorem C64_is : f64.body = some C64_0 := by kernel_rfl
def C64_1 : Code := cl C64_0
def R64_0 : Array Oper := regOps C64_1
def C64_2 : Code := cr C64_0
def C64_3 : Code := cl C64_2
def R64_1 : Array Oper := regOps C64_3
def C64_4 : Code := cr C64_2
def C64_5 : Code := cl C64_4
def C64_6 : Code := cl C64_5
def R64_2 : Array Oper := regOps C64_6
def C64_7 : Code := cr C64_5
def C64_8 : Code := cl C64_7
def C64_9 : Code := cl C64_8
def C64_10 : Code := cl C64_9
def R64_3 : Array Oper := regOps C64_10
def C64_11 : Code := cr C64_9
def C64_12 : Code := cl C64_11
def C64_13 : Code := cl C64_12
def C64_14 : Code := cr C64_12
def C64_15 : Code := cr C64_11
def C64_16 : Code := cl C64_15
def C64_17 : Code := cl C64_16
def C64_18 : Code := cl C64_17
def R64_4 : Array Oper := regOps C64_18
def C64_19 : Code := cr C64_17
def C64_20 : Code := cl C64_19
def R64_5 : Array Oper := regOps C64_20
def C64_21 : Code := cr C64_19
def C64_22 : Code := cl C64_21
def R64_6 : Array Oper := regOps C64_22
def C64_23 : Code := cr C64_21
def C64_24 : Code := cl C64_23
def C64_25 : Code := cl C64_24
def C64_26 : Code := cl C64_25
def R64_7 : Array Oper := regOps C64_26
def C64_27 : Code := cr C64_25
def C64_28 : Code := cl C64_27
def C64_29 : Code := cl C64_28
def C64_30 : Code := cr C64_28
def C64_31 : Code := cr C64_27
def C64_32 : Code := cl C64_31
def C64_33 : Code := cl C64_32
def R64_8 : Array Oper := regOps C64_33
def C64_34 : Code := cr C64_31
def R64_9 : Array Oper := regOps C64_34
def C64_35 : Code := cr C64_15
def R64_10 : Array Oper := regOps C64_35
def C64_36 : Code := cr C64_4
def C64_37 : Code := cl C64_36
def R64_11 : Array Oper := regOps C64_37
def C64_38 : Code := cr C64_36
theorem R64_0_N : dstsOk 29 R64_0 = true := by decide +kernel
theorem E64_1 : C64_1 = .region 0 R64_0 false := rfl
theorem R64_1_N : dstsOk 29 R64_1 = true := by decide +kernel
theorem E64_3 : C64_3 = .region 1 R64_1 false := rfl
theorem R64_2_N : dstsOk 29 R64_2 = true := by decide +kernel
theorem E64_6 : C64_6 = .region 2 R64_2 false := rfl
theorem R64_3_N : dstsOk 29 R64_3 = true := by decide +kernel
theorem E64_10 : C64_10 = .region 3 R64_3 false := rfl
theorem E64_13 : C64_13 = .skip := rfl
theorem E64_14 : C64_14 = .exit 0 := rfl
theorem E64_12 : C64_12 = .cond (.tmp 9) C64_13 C64_14 := rfl
theorem R64_4_N : dstsOk 29 R64_4 = true := by decide +kernel
theorem E64_18 : C64_18 = .region 4 R64_4 false := rfl
theorem R64_5_N : dstsOk 29 R64_5 = true := by decide +kernel
theorem E64_20 : C64_20 = .region 5 R64_5 false := rfl
theorem R64_6_N : dstsOk 29 R64_6 = true := by decide +kernel
theorem E64_22 : C64_22 = .region 6 R64_6 false := rfl
theorem R64_7_N : dstsOk 29 R64_7 = true := by decide +kernel
theorem E64_26 : C64_26 = .region 7 R64_7 false := rfl
theorem E64_29 : C64_29 = .skip := rfl
theorem E64_30 : C64_30 = .exit 2 := rfl
theorem E64_28 : C64_28 = .cond (.tmp 17) C64_29 C64_30 := rfl
theorem R64_8_N : dstsOk 29 R64_8 = true := by decide +kernel
theorem E64_33 : C64_33 = .region 8 R64_8 false := rfl
theorem E64_32 : C64_32 = .block 3 C64_33 := rfl
theorem R64_9_N : dstsOk 29 R64_9 = true := by decide +kernel
theorem E64_34 : C64_34 = .region 9 R64_9 false := rfl
theorem E64_31 : C64_31 = .seq C64_32 C64_34 := rfl
theorem E64_27 : C64_27 = .seq C64_28 C64_31 := rfl
theorem E64_25 : C64_25 = .seq C64_26 C64_27 := rfl
theorem E64_24 : C64_24 = .loop C64_25 := rfl
theorem E64_23 : C64_23 = .block 2 C64_24 := rfl
theorem E64_21 : C64_21 = .seq C64_22 C64_23 := rfl
theorem E64_19 : C64_19 = .seq C64_20 C64_21 := rfl
theorem E64_17 : C64_17 = .seq C64_18 C64_19 := rfl
theorem E64_16 : C64_16 = .block 1 C64_17 := rfl
theorem R64_10_N : dstsOk 29 R64_10 = true := by decide +kernel
theorem E64_35 : C64_35 = .region 10 R64_10 false := rfl
theorem E64_15 : C64_15 = .seq C64_16 C64_35 := rfl
theorem E64_11 : C64_11 = .seq C64_12 C64_15 := rfl
theorem E64_9 : C64_9 = .seq C64_10 C64_11 := rfl
theorem E64_8 : C64_8 = .loop C64_9 := rfl
theorem E64_7 : C64_7 = .block 0 C64_8 := rfl
theorem E64_5 : C64_5 = .seq C64_6 C64_7 := rfl
theorem R64_11_N : dstsOk 29 R64_11 = true := by decide +kernel
theorem E64_37 : C64_37 = .region 11 R64_11 false := rfl
theorem E64_38 : C64_38 = .ret := rfl
theorem E64_36 : C64_36 = .seq C64_37 C64_38 := rfl
theorem E64_4 : C64_4 = .seq C64_5 C64_36 := rfl
theorem E64_2 : C64_2 = .seq C64_3 C64_4 := rfl
theorem E64_0 : C64_0 = .seq C64_1 C64_2 := rfl
def S64_2s (Q : Int → AW → Prop) (E : List PanicEntry → AW → Prop) (nx1 : Int → Value → Int → Int → AW → Prop) (nx2 : Int → Value → Int → Int → Int → AW → Prop) (c_3 : Int) (t_6 : Value) (t_7 : Int) (t_8 : Int) (t_16 : Int) (aw : AW) : Prop :=
  cnd (decide (t_16 < 8)) (nx2 (bitsOf .xor .u32 (Int.fdiv c_3 (2 ^ (min (1 : Int).toNat IntKind.u32.bits))) (bitsOf .and .u32 2197175160 (IntKind.u32.wrap (-(bitsOf .and .u32 c_3 1))))) t_6 t_7 t_8 (IntKind.i64.wrap (t_16 + 1)) aw) (nx1 c_3 t_6 t_7 (IntKind.i64.wrap (t_8 + 1)) aw)
def S64_2 (Q : Int → AW → Prop) (E : List PanicEntry → AW → Prop) (nx1 : Int → Value → Int → Int → AW → Prop) : Nat → Int → Value → Int → Int → Int → AW → Prop
  | 0 => fun _ _ _ _ _ _ => False
  | n + 1 => S64_2s Q E nx1 (S64_2 Q E nx1 n)
def S64_1s (Q : Int → AW → Prop) (E : List PanicEntry → AW → Prop)  (nx1 : Int → Value → Int → Int → AW → Prop) (c_3 : Int) (t_6 : Value) (t_7 : Int) (t_8 : Int) (aw : AW) : Prop :=
  cnd (decide (t_8 < t_7)) (ixS t_6 t_8 1 fun p3 =>
  ldI .u8 aw p3 fun x15 =>
  ∃ n, S64_2 Q E nx1 n (bitsOf .xor .u32 c_3 (IntKind.u32.wrap x15)) t_6 t_7 t_8 0 aw) (Q (bitsOf .xor .u32 (if IntKind.u32.signed then -1 else IntKind.u32.max) c_3) aw)
def S64_1 (Q : Int → AW → Prop) (E : List PanicEntry → AW → Prop)  : Nat → Int → Value → Int → Int → AW → Prop
  | 0 => fun _ _ _ _ _ => False
  | n + 1 => S64_1s Q E  (S64_1 Q E  n)
def S64_0 (Q : Int → AW → Prop) (E : List PanicEntry → AW → Prop)  (p_0 : Value) (aw : AW) : Prop :=
  slen p_0 fun n17 =>
  ∃ n, S64_1 Q E  n 4294967295 p_0 n17 0 aw
theorem S64_2s_ok (Q : Int → AW → Prop) (E : List PanicEntry → AW → Prop) (nx1 : Int → Value → Int → Int → AW → Prop) (L1 : ∀ (ρ : Env) (c_3 : Int) (t_6 : Value) (t_7 : Int) (t_8 : Int) (aw : AW) (h3 : ρ 3 = .int .u32 c_3) (h6 : ρ 6 = t_6) (h7 : ρ 7 = .int .i64 t_7) (h8 : ρ 8 = .int .i64 t_8), nx1 c_3 t_6 t_7 t_8 aw → AGo prog 29 [.code C64_9, .inLoop C64_9, .inBlock 0, .code C64_36] ρ [] aw (RR prog f64 29 sh64 Q E)) (nx2 : Int → Value → Int → Int → Int → AW → Prop) (L2 : ∀ (ρ : Env) (c_3 : Int) (t_6 : Value) (t_7 : Int) (t_8 : Int) (t_16 : Int) (aw : AW) (h3 : ρ 3 = .int .u32 c_3) (h6 : ρ 6 = t_6) (h7 : ρ 7 = .int .i64 t_7) (h8 : ρ 8 = .int .i64 t_8) (h16 : ρ 16 = .int .i64 t_16), nx2 c_3 t_6 t_7 t_8 t_16 aw → AGo prog 29 [.code C64_25, .inLoop C64_25, .inBlock 2, .inBlock 1, .code C64_35, .inLoop C64_9, .inBlock 0, .code C64_36] ρ [] aw (RR prog f64 29 sh64 Q E)) (ρ : Env) (c_3 : Int) (t_6 : Value) (t_7 : Int) (t_8 : Int) (t_16 : Int) (aw : AW) (h3 : ρ 3 = .int .u32 c_3) (h6 : ρ 6 = t_6) (h7 : ρ 7 = .int .i64 t_7) (h8 : ρ 8 = .int .i64 t_8) (h16 : ρ 16 = .int .i64 t_16) (H : S64_2s Q E nx1 nx2 c_3 t_6 t_7 t_8 t_16 aw) :
    AGo prog 29 [.code C64_25, .inLoop C64_25, .inBlock 2, .inBlock 1, .code C64_35, .inLoop C64_9, .inBlock 0, .code C64_36] ρ [] aw (RR prog f64 29 sh64 Q E) := by
  unfold S64_2s at H
  refine ago_seqE E64_25 ?_
  refine ago_regE E64_26 (l := [0]) rfl ?_
  refine lk (dt := some 17) R64_7_N rfl rfl rfl (opv_lt rfl rfl rfl h16 rfl) ?_
  refine aops_nil ?_
  refine ago_seqE E64_27 ?_
  refine ago_condE  E64_28 rfl rfl (fun hb1 => ?_) (fun hb1 => ?_)
  · replace H := cnd_t H hb1
    refine ago_skipE E64_29 ?_
    refine ago_seqE E64_31 ?_
    refine ago_blockE E64_32 ?_
    refine ago_regE E64_33 (l := [0, 1, 2, 3, 4, 5, 6, 7]) rfl ?_
    refine lk (dt := some 18) R64_8_N rfl rfl rfl (opv_move rfl rfl h3) ?_
    refine lk (dt := some 19) R64_8_N rfl rfl rfl (opv_shr rfl rfl rfl rfl rfl (by decide)) ?_
    refine lk (dt := some 20) R64_8_N rfl rfl rfl (opv_move rfl rfl h3) ?_
    refine lk (dt := some 21) R64_8_N rfl rfl rfl (opv_and rfl rfl rfl rfl rfl) ?_
    refine lk (dt := some 22) R64_8_N rfl rfl rfl (opv_neg rfl rfl rfl) ?_
    refine lk (dt := some 23) R64_8_N rfl rfl rfl (opv_and rfl rfl rfl rfl rfl) ?_
    refine lk (dt := some 24) R64_8_N rfl rfl rfl (opv_xor rfl rfl rfl rfl rfl) ?_
    refine lk (dt := some 3) R64_8_N rfl rfl rfl (opv_assign rfl rfl rfl) ?_
    refine aops_nil ?_
    refine ago_inBlock ?_
    refine ago_regE E64_34 (l := [0, 1]) rfl ?_
    refine lk (dt := some 25) R64_9_N rfl rfl rfl (opv_add rfl rfl rfl h16 rfl) ?_
    refine lk (dt := some 16) R64_9_N rfl rfl rfl (opv_move rfl rfl rfl) ?_
    refine aops_nil ?_
    refine ago_inLoop ?_
    exact L2 _ (bitsOf .xor .u32 (Int.fdiv c_3 (2 ^ (min (1 : Int).toNat IntKind.u32.bits))) (bitsOf .and .u32 2197175160 (IntKind.u32.wrap (-(bitsOf .and .u32 c_3 1))))) t_6 t_7 t_8 (IntKind.i64.wrap (t_16 + 1)) aw rfl h6 h7 h8 rfl H
  replace H := cnd_f H hb1
  refine ago_exitE E64_30 rfl ?_
  refine ago_inBlock ?_
  refine ago_regE E64_35 (l := [0, 1]) rfl ?_
  refine lk (dt := some 26) R64_10_N rfl rfl rfl (opv_add rfl rfl rfl h8 rfl) ?_
  refine lk (dt := some 8) R64_10_N rfl rfl rfl (opv_move rfl rfl rfl) ?_
  refine aops_nil ?_
  refine ago_inLoop ?_
  exact L1 _ c_3 t_6 t_7 (IntKind.i64.wrap (t_8 + 1)) aw h3 h6 h7 rfl H
theorem S64_2_ok (Q : Int → AW → Prop) (E : List PanicEntry → AW → Prop) (nx1 : Int → Value → Int → Int → AW → Prop) (L1 : ∀ (ρ : Env) (c_3 : Int) (t_6 : Value) (t_7 : Int) (t_8 : Int) (aw : AW) (h3 : ρ 3 = .int .u32 c_3) (h6 : ρ 6 = t_6) (h7 : ρ 7 = .int .i64 t_7) (h8 : ρ 8 = .int .i64 t_8), nx1 c_3 t_6 t_7 t_8 aw → AGo prog 29 [.code C64_9, .inLoop C64_9, .inBlock 0, .code C64_36] ρ [] aw (RR prog f64 29 sh64 Q E)) : ∀ (n : Nat) (ρ : Env) (c_3 : Int) (t_6 : Value) (t_7 : Int) (t_8 : Int) (t_16 : Int) (aw : AW) (h3 : ρ 3 = .int .u32 c_3) (h6 : ρ 6 = t_6) (h7 : ρ 7 = .int .i64 t_7) (h8 : ρ 8 = .int .i64 t_8) (h16 : ρ 16 = .int .i64 t_16), S64_2 Q E nx1 n c_3 t_6 t_7 t_8 t_16 aw →
    AGo prog 29 [.code C64_25, .inLoop C64_25, .inBlock 2, .inBlock 1, .code C64_35, .inLoop C64_9, .inBlock 0, .code C64_36] ρ [] aw (RR prog f64 29 sh64 Q E)
  | 0, _, _, _, _, _, _, _, _, _, _, _, _ => fun H => H.elim
  | n + 1, ρ, c_3, t_6, t_7, t_8, t_16, aw, h3, h6, h7, h8, h16 => fun H => S64_2s_ok Q E nx1 L1 _ (S64_2_ok Q E nx1 L1 n) ρ c_3 t_6 t_7 t_8 t_16 aw h3 h6 h7 h8 h16 H
theorem S64_1s_ok (Q : Int → AW → Prop) (E : List PanicEntry → AW → Prop)  (nx1 : Int → Value → Int → Int → AW → Prop) (L1 : ∀ (ρ : Env) (c_3 : Int) (t_6 : Value) (t_7 : Int) (t_8 : Int) (aw : AW) (h3 : ρ 3 = .int .u32 c_3) (h6 : ρ 6 = t_6) (h7 : ρ 7 = .int .i64 t_7) (h8 : ρ 8 = .int .i64 t_8), nx1 c_3 t_6 t_7 t_8 aw → AGo prog 29 [.code C64_9, .inLoop C64_9, .inBlock 0, .code C64_36] ρ [] aw (RR prog f64 29 sh64 Q E)) (ρ : Env) (c_3 : Int) (t_6 : Value) (t_7 : Int) (t_8 : Int) (aw : AW) (h3 : ρ 3 = .int .u32 c_3) (h6 : ρ 6 = t_6) (h7 : ρ 7 = .int .i64 t_7) (h8 : ρ 8 = .int .i64 t_8) (H : S64_1s Q E  nx1 c_3 t_6 t_7 t_8 aw) :
    AGo prog 29 [.code C64_9, .inLoop C64_9, .inBlock 0, .code C64_36] ρ [] aw (RR prog f64 29 sh64 Q E) := by
  unfold S64_1s at H
  refine ago_seqE E64_9 ?_
  refine ago_regE E64_10 (l := [0]) rfl ?_
  refine lk (dt := some 9) R64_3_N rfl rfl rfl (opv_lt rfl rfl rfl h8 h7) ?_
  refine aops_nil ?_
  refine ago_seqE E64_11 ?_
  refine ago_condE  E64_12 rfl rfl (fun hb2 => ?_) (fun hb2 => ?_)
  · replace H := cnd_t H hb2
    refine ago_skipE E64_13 ?_
    refine ago_seqE E64_15 ?_
    refine ago_blockE E64_16 ?_
    refine ago_seqE E64_17 ?_
    refine ago_regE E64_18 (l := [0, 1, 2]) rfl ?_
    obtain ⟨b4, i5, l6, c7, p3, hp8, h09, hj10, hv11, H⟩ := H
    refine lk (dt := some 10) R64_4_N rfl rfl rfl (ov_ixS rfl rfl rfl underlying35 sz5 h6 h8 hp8 h09 hj10 hv11) ?_
    obtain ⟨b12, i13, x15, hp14, hg16, H⟩ := H
    refine lk (dt := some 11) R64_4_N rfl rfl rfl (ov_ldI rfl underlying5 rfl rfl hp14 hg16) ?_
    refine lk (dt := some 5) R64_4_N rfl rfl rfl (opv_assign rfl rfl rfl) ?_
    refine aops_nil ?_
    refine ago_seqE E64_19 ?_
    refine ago_regE E64_20 (l := [0, 1, 2, 3, 4]) rfl ?_
    refine lk (dt := some 12) R64_5_N rfl rfl rfl (opv_move rfl rfl h3) ?_
    refine lk (dt := some 13) R64_5_N rfl rfl rfl (opv_move rfl rfl rfl) ?_
    refine lk (dt := some 14) R64_5_N rfl rfl rfl (opv_conv rfl rfl underlying5 underlying144 rfl) ?_
    refine lk (dt := some 15) R64_5_N rfl rfl rfl (opv_xor rfl rfl rfl rfl rfl) ?_
    refine lk (dt := some 3) R64_5_N rfl rfl rfl (opv_assign rfl rfl rfl) ?_
    refine aops_nil ?_
    refine ago_seqE E64_21 ?_
    refine ago_regE E64_22 (l := [0]) rfl ?_
    refine lk (dt := some 16) R64_6_N rfl rfl rfl (opv_move rfl rfl rfl) ?_
    refine aops_nil ?_
    refine ago_blockE E64_23 ?_
    refine ago_loopE E64_24 ?_
    obtain ⟨n, H⟩ := H
    exact S64_2_ok Q E nx1 L1 n _ (bitsOf .xor .u32 c_3 (IntKind.u32.wrap x15)) t_6 t_7 t_8 0 aw rfl h6 h7 h8 rfl H
  replace H := cnd_f H hb2
  refine ago_exitE E64_14 rfl ?_
  refine ago_seqE E64_36 ?_
  refine ago_regE E64_37 (l := [0, 1, 2]) rfl ?_
  refine lk (dt := some 27) R64_11_N rfl rfl rfl (opv_move rfl rfl h3) ?_
  refine lk (dt := some 28) R64_11_N rfl rfl rfl (opv_compl rfl rfl rfl) ?_
  refine lk (dt := some 2) R64_11_N rfl rfl rfl (opv_assign rfl rfl rfl) ?_
  refine aops_nil ?_
  exact ago_retE E64_38 (r := (bitsOf .xor .u32 (if IntKind.u32.signed then -1 else IntKind.u32.max) c_3)) (ares_1 rfl (oneT rfl)) rfl H
theorem S64_1_ok (Q : Int → AW → Prop) (E : List PanicEntry → AW → Prop)  : ∀ (n : Nat) (ρ : Env) (c_3 : Int) (t_6 : Value) (t_7 : Int) (t_8 : Int) (aw : AW) (h3 : ρ 3 = .int .u32 c_3) (h6 : ρ 6 = t_6) (h7 : ρ 7 = .int .i64 t_7) (h8 : ρ 8 = .int .i64 t_8), S64_1 Q E  n c_3 t_6 t_7 t_8 aw →
    AGo prog 29 [.code C64_9, .inLoop C64_9, .inBlock 0, .code C64_36] ρ [] aw (RR prog f64 29 sh64 Q E)
  | 0, _, _, _, _, _, _, _, _, _, _ => fun H => H.elim
  | n + 1, ρ, c_3, t_6, t_7, t_8, aw, h3, h6, h7, h8 => fun H => S64_1s_ok Q E  _ (S64_1_ok Q E  n) ρ c_3 t_6 t_7 t_8 aw h3 h6 h7 h8 H
theorem S64_0_ok (Q : Int → AW → Prop) (E : List PanicEntry → AW → Prop)  (ρ : Env) (p_0 : Value) (aw : AW) (h0 : ρ 0 = p_0) (H : S64_0 Q E  p_0 aw) :
    AGo prog 29 [.code C64_0] ρ [] aw (RR prog f64 29 sh64 Q E) := by
  unfold S64_0 at H
  refine ago_seqE E64_0 ?_
  refine ago_regE E64_1 (l := [0]) rfl ?_
  refine lk (dt := some 2) R64_0_N rfl rfl rfl (opv_assign rfl rfl rfl) ?_
  refine aops_nil ?_
  refine ago_seqE E64_2 ?_
  refine ago_regE E64_3 (l := [0]) rfl ?_
  refine lk (dt := some 3) R64_1_N rfl rfl rfl (opv_assign rfl rfl rfl) ?_
  refine aops_nil ?_
  refine ago_seqE E64_4 ?_
  refine ago_seqE E64_5 ?_
  refine ago_regE E64_6 (l := [0, 1, 2]) rfl ?_
  refine lk (dt := some 6) R64_2_N rfl rfl rfl (opv_move rfl rfl h0) ?_
  obtain ⟨q18, l19, c20, n17, hv21, hn22, H⟩ := H
  refine lk (dt := some 7) R64_2_N rfl rfl rfl (ov_len rfl rfl rfl underlying35 rfl hv21 hn22) ?_
  refine lk (dt := some 8) R64_2_N rfl rfl rfl (opv_move rfl rfl rfl) ?_
  refine aops_nil ?_
  refine ago_blockE E64_7 ?_
  refine ago_loopE E64_8 ?_
  obtain ⟨n, H⟩ := H
  exact S64_1_ok Q E  n _ 4294967295 p_0 n17 0 aw rfl rfl rfl rfl H
theorem F64_ok {Q : Int → AW → Prop} {E : List PanicEntry → AW → Prop} (p_0 : Value) (aw : AW) (H : S64_0 Q E p_0 aw) : CallP prog 64 [p_0] aw sh64 Q E :=
  callP_of func64 C64_is rfl (Nat.le_of_ble_eq_true rfl) (S64_0_ok Q E _ p_0 aw rfl H)
def C4_0 : Code := bodyOf f4
theorem C4_is : f4.body = some C4_0 := by kernel_rfl
def C4_1 : Code := cl C4_0
def R4_0 : Array Oper := regOps C4_1
def C4_2 : Code := cr C4_0
def C4_3 : Code := cl C4_2
def R4_1 : Array Oper := regOps C4_3
def C4_4 : Code := cr C4_2
def C4_5 : Code := cl C4_4
def R4_2 : Array Oper := regOps C4_5
def C4_6 : Code := cr C4_4
def C4_7 : Code := cl C4_6
def C4_8 : Code := cl C4_7
def R4_3 : Array Oper := regOps C4_8
def C4_9 : Code := cr C4_7
def C4_10 : Code := cl C4_9
def C4_11 : Code := cl C4_10
def R4_4 : Array Oper := regOps C4_11
def C4_12 : Code := cr C4_10
def C4_13 : Code := cr C4_9
def C4_14 : Code := cr C4_6
def C4_15 : Code := cl C4_14
def R4_5 : Array Oper := regOps C4_15
def C4_16 : Code := cr C4_14
def C4_17 : Code := cl C4_16
def R4_6 : Array Oper := regOps C4_17
def C4_18 : Code := cr C4_16
theorem R4_0_N : dstsOk 38 R4_0 = true := by decide +kernel
theorem E4_1 : C4_1 = .region 0 R4_0 false := rfl
theorem R4_1_N : dstsOk 38 R4_1 = true := by decide +kernel
theorem E4_3 : C4_3 = .region 1 R4_1 false := rfl
theorem R4_2_N : dstsOk 38 R4_2 = true := by decide +kernel
theorem E4_5 : C4_5 = .region 2 R4_2 false := rfl
theorem R4_3_N : dstsOk 38 R4_3 = true := by decide +kernel
theorem E4_8 : C4_8 = .region 3 R4_3 false := rfl
theorem R4_4_N : dstsOk 38 R4_4 = true := by decide +kernel
theorem E4_11 : C4_11 = .region 4 R4_4 false := rfl
theorem E4_12 : C4_12 = .ret := rfl
theorem E4_10 : C4_10 = .seq C4_11 C4_12 := rfl
theorem E4_13 : C4_13 = .skip := rfl
theorem E4_9 : C4_9 = .cond (.tmp 30) C4_10 C4_13 := rfl
theorem E4_7 : C4_7 = .seq C4_8 C4_9 := rfl
theorem R4_5_N : dstsOk 38 R4_5 = true := by decide +kernel
theorem E4_15 : C4_15 = .region 5 R4_5 false := rfl
theorem R4_6_N : dstsOk 38 R4_6 = true := by decide +kernel
theorem E4_17 : C4_17 = .region 6 R4_6 false := rfl
theorem E4_18 : C4_18 = .ret := rfl
theorem E4_16 : C4_16 = .seq C4_17 C4_18 := rfl
theorem E4_14 : C4_14 = .seq C4_15 C4_16 := rfl
theorem E4_6 : C4_6 = .seq C4_7 C4_14 := rfl
theorem E4_4 : C4_4 = .seq C4_5 C4_6 := rfl
theorem E4_2 : C4_2 = .seq C4_3 C4_4 := rfl
theorem E4_0 : C4_0 = .seq C4_1 C4_2 := rfl
def S4_0 (Q : Bool → AW → Prop) (E : List PanicEntry → AW → Prop)   (aw : AW) : Prop :=
  alcS aw [.string (⟨#[108, 101, 116, 32, 120, 32, 61, 32, 54, 32, 59, 59, 32, 108, 101, 116, 32, 102, 32, 121, 32, 61, 32, 120, 32, 42, 32, 121]⟩ : ByteArray)] 9 1 1 fun p1 aw2 =>
  CallP prog 12 [.int .i64 3000, p1] aw2 sh12 (fun r5 aw6 =>
  alc aw6 [(.slice none 0 0), (.slice none 0 0), (.slice none 0 0), (.slice none 0 0), (.pointer none)] 31 0 fun p7 aw8 =>
  st aw8 p7 [r5.1, r5.2.1, r5.2.2.1, r5.2.2.2.1, r5.2.2.2.2.1] fun aw11 =>
  ptr p7 fun b18 i19 =>
  gV aw11 b18 i19 fun c21 =>
  gV aw11 b18 (i19 + 1) fun c22 =>
  gV aw11 b18 (i19 + 2) fun c23 =>
  gV aw11 b18 (i19 + 3) fun c24 =>
  gV aw11 b18 (i19 + 4) fun c25 =>
  CallP prog 6 [.agg #[c21, c22, c23, c24, c25]] aw11 sh6 (fun r31 aw32 =>
  CallP prog 7 [r31] aw32 sh7 (fun r33 aw34 =>
  alc aw34 [(.slice none 0 0), (.slice none 0 0), (.slice none 0 0), (.slice none 0 0), (.pointer none)] 31 0 fun p35 aw36 =>
  st aw36 p35 [r33.1, r33.2.1, r33.2.2.1, r33.2.2.2.1, r33.2.2.2.2.1] fun aw39 =>
  cnd (!r5.2.2.2.2.2) (Q false aw39) (cnd (!decide (r33.2.2.2.2.2 = 0)) (Q false aw39) (fldA p35 0 fun p50 =>
  fldA p50 3 fun p55 =>
  ldV aw39 p55 fun x63 =>
  slen x63 fun n65 =>
  cnd (!decide (n65 = 10)) (Q false aw39) (ptr p35 fun b72 i73 =>
  gV aw39 b72 i73 fun c75 =>
  gV aw39 b72 (i73 + 1) fun c76 =>
  gV aw39 b72 (i73 + 2) fun c77 =>
  gV aw39 b72 (i73 + 3) fun c78 =>
  gV aw39 b72 (i73 + 4) fun c79 =>
  CallP prog 13 [.agg #[c75, c76, c77, c78, c79], .string (⟨#[102, 32, 55]⟩ : ByteArray), .int .i64 9] aw39 sh13 (fun r85 aw86 =>
  alc aw86 [(.slice none 0 0), (.slice none 0 0), (.slice none 0 0), (.slice none 0 0), (.pointer none)] 31 0 fun p87 aw88 =>
  st aw88 p87 [r85.1, r85.2.1, r85.2.2.1, r85.2.2.2.1, r85.2.2.2.2.1] fun aw91 =>
  Q (decide (r85.2.2.2.2.2 = (⟨#[48, 32, 32, 32, 48, 32, 56, 10, 52, 50]⟩ : ByteArray))) aw91) E)))) E) E) E
theorem S4_0_ok (Q : Bool → AW → Prop) (E : List PanicEntry → AW → Prop)  (ρ : Env)  (aw : AW)  (H : S4_0 Q E   aw) :
    AGo prog 38 [.code C4_0] ρ [] aw (RR prog f4 38 sh4 Q E) := by
  unfold S4_0 at H
  refine ago_seqE E4_0 ?_
  refine ago_regE E4_1 (l := [0]) rfl ?_
  refine lk (dt := some 0) R4_0_N rfl rfl rfl (opv_assign rfl rfl rfl) ?_
  refine aops_nil ?_
  refine ago_seqE E4_2 ?_
  refine ago_regE E4_3 (l := [0, 1, 2, 3, 4, 5, 6, 7]) rfl ?_
  obtain ⟨p1, aw2, hp3, ha4, H⟩ := H
  refine lk (dt := some 8) R4_1_N rfl rfl rfl (ov_bsA (r := [.string (⟨#[108, 101, 116, 32, 120, 32, 61, 32, 54, 32, 59, 59, 32, 108, 101, 116, 32, 102, 32, 121, 32, 61, 32, 120, 32, 42, 32, 121]⟩ : ByteArray)]) (vs := [.string (⟨#[108, 101, 116, 32, 120, 32, 61, 32, 54, 32, 59, 59, 32, 108, 101, 116, 32, 102, 32, 121, 32, 61, 32, 120, 32, 42, 32, 121]⟩ : ByteArray)]) rfl rfl underlying23 sz9 z9 rfl rfl rfl rfl rfl (mp_cons rfl rfl) (.one rfl .nil) hp3 ha4) ?_
  refine lk_call (dt := some 9) R4_1_N rfl rfl rfl (opc_of rfl rfl is12 (ma_cons rfl (ma_cons rfl rfl))) H (fun _ _ h => ⟨rfl, h⟩) fun r5 aw6 H => ?_
  refine lk (dt := some 7) R4_1_N rfl rfl rfl (opv_move rfl rfl rfl) ?_
  refine lk (dt := some 10) R4_1_N rfl rfl rfl (opv_extract rfl rfl rfl rfl) ?_
  refine lk (dt := some 11) R4_1_N rfl rfl rfl (opv_extract rfl rfl rfl rfl) ?_
  obtain ⟨p7, aw8, hp9, ha10, H⟩ := H
  refine lk (dt := some 1) R4_1_N rfl rfl rfl (ov_alloc rfl z31 rfl rfl hp9 ha10) ?_
  obtain ⟨b12, i13, aw11, hp14, hw15, ho16, ha17, H⟩ := H
  refine lk (dt := none) R4_1_N rfl rfl rfl (ov_st rfl rfl rfl rfl rfl rfl sz31 hp14 hw15 ho16 ha17) ?_
  refine lk (dt := some 2) R4_1_N rfl rfl rfl (opv_assign rfl rfl rfl) ?_
  refine aops_nil ?_
  refine ago_seqE E4_4 ?_
  refine ago_regE E4_5 (l := [0, 1, 2, 3, 4, 5, 6, 7, 8]) rfl ?_
  obtain ⟨b18, i19, hp20, c21, hg26, c22, hg27, c23, hg28, c24, hg29, c25, hg30, H⟩ := H
  refine lk (dt := some 13) R4_2_N rfl rfl rfl (ov_ldN rfl underlying31 rfl sz31 rfl rfl hp20 (getN_cons hg26 (getN_cons hg27 (getN_cons hg28 (getN_cons hg29 (getN_cons hg30 getN_nil)))))) ?_
  refine lk_call (dt := some 14) R4_2_N rfl rfl rfl (opc_of rfl rfl is6 (ma_cons rfl rfl)) H (fun _ _ h => ⟨rfl, h⟩) fun r31 aw32 H => ?_
  refine lk_call (dt := some 15) R4_2_N rfl rfl rfl (opc_of rfl rfl is7 (ma_cons rfl rfl)) H (fun _ _ h => ⟨rfl, h⟩) fun r33 aw34 H => ?_
  refine lk (dt := some 12) R4_2_N rfl rfl rfl (opv_move rfl rfl rfl) ?_
  refine lk (dt := some 16) R4_2_N rfl rfl rfl (opv_extract rfl rfl rfl rfl) ?_
  refine lk (dt := some 17) R4_2_N rfl rfl rfl (opv_extract rfl rfl rfl rfl) ?_
  obtain ⟨p35, aw36, hp37, ha38, H⟩ := H
  refine lk (dt := some 3) R4_2_N rfl rfl rfl (ov_alloc rfl z31 rfl rfl hp37 ha38) ?_
  obtain ⟨b40, i41, aw39, hp42, hw43, ho44, ha45, H⟩ := H
  refine lk (dt := none) R4_2_N rfl rfl rfl (ov_st rfl rfl rfl rfl rfl rfl sz31 hp42 hw43 ho44 ha45) ?_
  refine lk (dt := some 4) R4_2_N rfl rfl rfl (opv_assign rfl rfl rfl) ?_
  refine aops_nil ?_
  refine ago_seqE E4_6 ?_
  refine ago_seqE E4_7 ?_
  refine ago_cut (fun ρ => ρ 2 = .bool r5.2.2.2.2.2 ∧ ρ 3 = p35 ∧ ρ 4 = .int .i64 r33.2.2.2.2.2 ∧ True) ⟨rfl, rfl, rfl, trivial⟩ (fun ρ ⟨h2, h3, h4, _⟩ => ?_)
  refine ago_regE E4_8 (l := [0, 1, 2, 3, 4, 5, 6, 7, 8, 9, 10, 11, 12]) rfl ?_
  refine lk (dt := some 18) R4_3_N rfl rfl rfl (opv_move rfl rfl h2) ?_
  refine lk (dt := some 19) R4_3_N rfl rfl rfl (opv_not rfl rfl rfl) ?_
  refine lk (dt := some 20) R4_3_N rfl rfl rfl (opv_move rfl rfl rfl) ?_
  rcases Bool.eq_false_or_eq_true (!r5.2.2.2.2.2) with hb46 | hb46
  · replace H := cnd_t H hb46
    refine lk_skip (dt := some 21) R4_3_N rfl rfl ⟨_, rfl, .inl ⟨_, rfl, gq hb46 rfl⟩⟩ ?_
    refine lk_skip (dt := some 22) R4_3_N rfl rfl ⟨_, rfl, .inl ⟨_, rfl, gq hb46 rfl⟩⟩ ?_
    refine lk (dt := some 23) R4_3_N rfl rfl rfl (ov_pickT rfl rfl rfl rfl rfl hb46 rfl) ?_
    refine lk (dt := some 24) R4_3_N rfl rfl rfl (opv_move rfl rfl rfl) ?_
    refine lk_skip (dt := some 25) R4_3_N rfl rfl ⟨_, rfl, .inl ⟨_, rfl, gq rfl rfl⟩⟩ ?_
    refine lk_skip (dt := some 26) R4_3_N rfl rfl ⟨_, rfl, .inl ⟨_, rfl, gq rfl rfl⟩⟩ ?_
    refine lk_skip (dt := some 27) R4_3_N rfl rfl ⟨_, rfl, .inl ⟨_, rfl, gq rfl rfl⟩⟩ ?_
    refine lk_skip (dt := some 28) R4_3_N rfl rfl ⟨_, rfl, .inl ⟨_, rfl, gq rfl rfl⟩⟩ ?_
    refine lk_skip (dt := some 29) R4_3_N rfl rfl ⟨_, rfl, .inl ⟨_, rfl, gq rfl rfl⟩⟩ ?_
    refine lk (dt := some 30) R4_3_N rfl rfl rfl (ov_pickT rfl rfl rfl rfl rfl rfl rfl) ?_
    refine aops_nil ?_
    refine ago_condE  E4_9 rfl rfl (fun h => ?_) (fun h => tf h)
    refine ago_seqE E4_10 ?_
    refine ago_regE E4_11 (l := [0]) rfl ?_
    refine lk (dt := some 0) R4_4_N rfl rfl rfl (opv_assign rfl rfl rfl) ?_
    refine aops_nil ?_
    exact ago_retE E4_12 (r := false) (ares_1 rfl (oneT rfl)) rfl H
  · replace H := cnd_f H hb46
    refine lk (dt := some 21) R4_3_N rfl rfl ⟨_, rfl, .inl ⟨_, rfl, gq hb46 rfl⟩⟩ (opv_move rfl rfl h4) ?_
    refine lk (dt := some 22) R4_3_N rfl rfl ⟨_, rfl, .inl ⟨_, rfl, gq hb46 rfl⟩⟩ (opv_neI rfl rfl rfl rfl rfl) ?_
    refine lk (dt := some 23) R4_3_N rfl rfl rfl (ov_pickF rfl rfl rfl rfl rfl hb46 rfl) ?_
    refine lk (dt := some 24) R4_3_N rfl rfl rfl (opv_move rfl rfl rfl) ?_
    rcases Bool.eq_false_or_eq_true (!decide (r33.2.2.2.2.2 = 0)) with hb48 | hb48
    · replace H := cnd_t H hb48
      refine lk_skip (dt := some 25) R4_3_N rfl rfl ⟨_, rfl, .inl ⟨_, rfl, gq hb48 rfl⟩⟩ ?_
      refine lk_skip (dt := some 26) R4_3_N rfl rfl ⟨_, rfl, .inl ⟨_, rfl, gq hb48 rfl⟩⟩ ?_
      refine lk_skip (dt := some 27) R4_3_N rfl rfl ⟨_, rfl, .inl ⟨_, rfl, gq hb48 rfl⟩⟩ ?_
      refine lk_skip (dt := some 28) R4_3_N rfl rfl ⟨_, rfl, .inl ⟨_, rfl, gq hb48 rfl⟩⟩ ?_
      refine lk_skip (dt := some 29) R4_3_N rfl rfl ⟨_, rfl, .inl ⟨_, rfl, gq hb48 rfl⟩⟩ ?_
      refine lk (dt := some 30) R4_3_N rfl rfl rfl (ov_pickT rfl rfl rfl rfl rfl hb48 rfl) ?_
      refine aops_nil ?_
      refine ago_condE  E4_9 rfl rfl (fun h => ?_) (fun h => tf h)
      refine ago_seqE E4_10 ?_
      refine ago_regE E4_11 (l := [0]) rfl ?_
      refine lk (dt := some 0) R4_4_N rfl rfl rfl (opv_assign rfl rfl rfl) ?_
      refine aops_nil ?_
      exact ago_retE E4_12 (r := false) (ares_1 rfl (oneT rfl)) rfl H
    · replace H := cnd_f H hb48
      obtain ⟨b51, i52, p50, hp53, hv54, H⟩ := H
      refine lk (dt := some 25) R4_3_N rfl rfl ⟨_, rfl, .inl ⟨_, rfl, gq hb48 rfl⟩⟩ (ov_fldA rfl rfl underlying31 rfl sz28 (by decide) h3 hp53 rfl hv54) ?_
      obtain ⟨b56, i57, p55, hp58, hv59, H⟩ := H
      refine lk (dt := some 26) R4_3_N rfl rfl ⟨_, rfl, .inl ⟨_, rfl, gq hb48 rfl⟩⟩ (ov_fldA rfl rfl underlying28 rfl sz26 (by decide) rfl hp58 rfl hv59) ?_
      obtain ⟨b60, i61, x63, hp62, hg64, H⟩ := H
      refine lk (dt := some 27) R4_3_N rfl rfl ⟨_, rfl, .inl ⟨_, rfl, gq hb48 rfl⟩⟩ (ov_ldV rfl underlying26 rfl rfl rfl hp62 hg64) ?_
      obtain ⟨q66, l67, c68, n65, hv69, hn70, H⟩ := H
      refine lk (dt := some 28) R4_3_N rfl rfl ⟨_, rfl, .inl ⟨_, rfl, gq hb48 rfl⟩⟩ (ov_len rfl rfl rfl underlying26 rfl hv69 hn70) ?_
      refine lk (dt := some 29) R4_3_N rfl rfl ⟨_, rfl, .inl ⟨_, rfl, gq hb48 rfl⟩⟩ (opv_neI rfl rfl rfl rfl rfl) ?_
      refine lk (dt := some 30) R4_3_N rfl rfl rfl (ov_pickF rfl rfl rfl rfl rfl hb48 rfl) ?_
      refine aops_nil ?_
      refine ago_condE  E4_9 rfl rfl (fun hb71 => ?_) (fun hb71 => ?_)
      · replace H := cnd_t H hb71
        refine ago_seqE E4_10 ?_
        refine ago_regE E4_11 (l := [0]) rfl ?_
        refine lk (dt := some 0) R4_4_N rfl rfl rfl (opv_assign rfl rfl rfl) ?_
        refine aops_nil ?_
        exact ago_retE E4_12 (r := false) (ares_1 rfl (oneT rfl)) rfl H
      replace H := cnd_f H hb71
      refine ago_skipE E4_13 ?_
      refine ago_seqE E4_14 ?_
      refine ago_cut (fun ρ => ρ 3 = p35 ∧ True) ⟨h3, trivial⟩ (fun ρ ⟨h3, _⟩ => ?_)
      refine ago_regE E4_15 (l := [0, 1, 2, 3, 4, 5, 6, 7]) rfl ?_
      obtain ⟨b72, i73, hp74, c75, hg80, c76, hg81, c77, hg82, c78, hg83, c79, hg84, H⟩ := H
      refine lk (dt := some 32) R4_5_N rfl rfl rfl (ov_ldN rfl underlying31 rfl sz31 rfl h3 hp74 (getN_cons hg80 (getN_cons hg81 (getN_cons hg82 (getN_cons hg83 (getN_cons hg84 getN_nil)))))) ?_
      refine lk_call (dt := some 33) R4_5_N rfl rfl rfl (opc_of rfl rfl is13 (ma_cons rfl (ma_cons rfl (ma_cons rfl rfl)))) H (fun _ _ h => ⟨rfl, h⟩) fun r85 aw86 H => ?_
      refine lk (dt := some 31) R4_5_N rfl rfl rfl (opv_move rfl rfl rfl) ?_
      refine lk (dt := some 34) R4_5_N rfl rfl rfl (opv_extract rfl rfl rfl rfl) ?_
      refine lk (dt := some 35) R4_5_N rfl rfl rfl (opv_extract rfl rfl rfl rfl) ?_
      obtain ⟨p87, aw88, hp89, ha90, H⟩ := H
      refine lk (dt := some 5) R4_5_N rfl rfl rfl (ov_alloc rfl z31 rfl rfl hp89 ha90) ?_
      obtain ⟨b92, i93, aw91, hp94, hw95, ho96, ha97, H⟩ := H
      refine lk (dt := none) R4_5_N rfl rfl rfl (ov_st rfl rfl rfl rfl rfl rfl sz31 hp94 hw95 ho96 ha97) ?_
      refine lk (dt := some 6) R4_5_N rfl rfl rfl (opv_assign rfl rfl rfl) ?_
      refine aops_nil ?_
      refine ago_seqE E4_16 ?_
      refine ago_regE E4_17 (l := [0, 1, 2]) rfl ?_
      refine lk (dt := some 36) R4_6_N rfl rfl rfl (opv_move rfl rfl rfl) ?_
      refine lk (dt := some 37) R4_6_N rfl rfl rfl (opv_eqS rfl rfl rfl rfl rfl) ?_
      refine lk (dt := some 0) R4_6_N rfl rfl rfl (opv_assign rfl rfl rfl) ?_
      refine aops_nil ?_
      exact ago_retE E4_18 (r := (decide (r85.2.2.2.2.2 = (⟨#[48, 32, 32, 32, 48, 32, 56, 10, 52, 50]⟩ : ByteArray)))) (ares_1 rfl (oneT rfl)) rfl H
theorem F4_ok {Q : Bool → AW → Prop} {E : List PanicEntry → AW → Prop}  (aw : AW) (H : S4_0 Q E  aw) : CallP prog 4 [] aw sh4 Q E :=
  callP_of func4 C4_is rfl (Nat.le_of_ble_eq_true rfl) (S4_0_ok Q E _  aw  H)
end
end Go.Proofs.Tryz
