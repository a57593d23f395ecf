/- Printed by a program of the prover: what the Go functions of this seat do, in steps. -/
import Derived.Test.YtdamanhpnbefgaaDoorTrydB
set_option linter.unusedVariables false
namespace Go.Proofs.Tryd
open Go Go.Am Go.RowKit
/-! ### battledore/battledoreref03.Number: function 14 -/
noncomputable def C14_0 : Code := bodyOf f14
theorem C14_is : f14.body = some C14_0 := by kernel_rfl
noncomputable def C14_1 : Code := cl C14_0
noncomputable def R14_0 : Array Oper := regOps C14_1
noncomputable def C14_2 : Code := cr C14_0
noncomputable def C14_3 : Code := cl C14_2
noncomputable def R14_1 : Array Oper := regOps C14_3
noncomputable def C14_4 : Code := cr C14_2
noncomputable def C14_5 : Code := cl C14_4
noncomputable def C14_6 : Code := cl C14_5
noncomputable def R14_2 : Array Oper := regOps C14_6
noncomputable def C14_7 : Code := cr C14_5
noncomputable def C14_8 : Code := cl C14_7
noncomputable def C14_9 : Code := cl C14_8
noncomputable def C14_10 : Code := cl C14_9
noncomputable def C14_11 : Code := cl C14_10
noncomputable def R14_3 : Array Oper := regOps C14_11
noncomputable def C14_12 : Code := cr C14_10
noncomputable def C14_13 : Code := cl C14_12
noncomputable def C14_14 : Code := cr C14_12
noncomputable def C14_15 : Code := cr C14_9
noncomputable def C14_16 : Code := cl C14_15
noncomputable def C14_17 : Code := cl C14_16
noncomputable def C14_18 : Code := cl C14_17
noncomputable def R14_5 : Array Oper := regOps C14_18
noncomputable def C14_19 : Code := cr C14_17
noncomputable def C14_20 : Code := cl C14_19
noncomputable def C14_21 : Code := cl C14_20
noncomputable def R14_6 : Array Oper := regOps C14_21
noncomputable def C14_22 : Code := cr C14_20
noncomputable def C14_23 : Code := cl C14_22
noncomputable def C14_24 : Code := cl C14_23
noncomputable def R14_7 : Array Oper := regOps C14_24
noncomputable def C14_25 : Code := cr C14_23
noncomputable def C14_26 : Code := cr C14_22
noncomputable def C14_27 : Code := cr C14_19
noncomputable def R14_8 : Array Oper := regOps C14_27
noncomputable def C14_28 : Code := cr C14_15
noncomputable def R14_4 : Array Oper := regOps C14_28
noncomputable def C14_29 : Code := cr C14_4
noncomputable def C14_30 : Code := cl C14_29
noncomputable def R14_9 : Array Oper := regOps C14_30
noncomputable def C14_31 : Code := cr C14_29
theorem R14_0_N : dstsOk 28 R14_0 = true := by decide +kernel
theorem E14_1 : C14_1 = .region 0 R14_0 false := rfl
theorem R14_1_N : dstsOk 28 R14_1 = true := by decide +kernel
theorem E14_3 : C14_3 = .region 1 R14_1 false := rfl
theorem R14_2_N : dstsOk 28 R14_2 = true := by decide +kernel
theorem E14_6 : C14_6 = .region 2 R14_2 false := rfl
theorem R14_3_N : dstsOk 28 R14_3 = true := by decide +kernel
theorem E14_11 : C14_11 = .region 3 R14_3 false := rfl
theorem E14_13 : C14_13 = .skip := rfl
theorem E14_14 : C14_14 = .exit 0 := rfl
theorem E14_12 : C14_12 = .cond (.tmp 10) C14_13 C14_14 := rfl
theorem E14_10 : C14_10 = .seq C14_11 C14_12 := rfl
theorem R14_5_N : dstsOk 28 R14_5 = true := by decide +kernel
theorem E14_18 : C14_18 = .region 5 R14_5 false := rfl
theorem R14_6_N : dstsOk 28 R14_6 = true := by decide +kernel
theorem E14_21 : C14_21 = .region 6 R14_6 false := rfl
theorem R14_7_N : dstsOk 28 R14_7 = true := by decide +kernel
theorem E14_24 : C14_24 = .region 7 R14_7 false := rfl
theorem E14_25 : C14_25 = .ret := rfl
theorem E14_23 : C14_23 = .seq C14_24 C14_25 := rfl
theorem E14_26 : C14_26 = .skip := rfl
theorem E14_22 : C14_22 = .cond (.tmp 22) C14_23 C14_26 := rfl
theorem E14_20 : C14_20 = .seq C14_21 C14_22 := rfl
theorem R14_8_N : dstsOk 28 R14_8 = true := by decide +kernel
theorem E14_27 : C14_27 = .region 8 R14_8 false := rfl
theorem E14_19 : C14_19 = .seq C14_20 C14_27 := rfl
theorem E14_17 : C14_17 = .seq C14_18 C14_19 := rfl
theorem E14_16 : C14_16 = .block 1 C14_17 := rfl
theorem R14_4_N : dstsOk 28 R14_4 = true := by decide +kernel
theorem E14_28 : C14_28 = .region 4 R14_4 false := rfl
theorem E14_15 : C14_15 = .seq C14_16 C14_28 := rfl
theorem E14_9 : C14_9 = .seq C14_10 C14_15 := rfl
theorem E14_8 : C14_8 = .loop C14_9 := rfl
theorem E14_7 : C14_7 = .block 0 C14_8 := rfl
theorem E14_5 : C14_5 = .seq C14_6 C14_7 := rfl
theorem R14_9_N : dstsOk 28 R14_9 = true := by decide +kernel
theorem E14_30 : C14_30 = .region 9 R14_9 false := rfl
theorem E14_31 : C14_31 = .ret := rfl
theorem E14_29 : C14_29 = .seq C14_30 C14_31 := rfl
theorem E14_4 : C14_4 = .seq C14_5 C14_29 := rfl
theorem E14_2 : C14_2 = .seq C14_3 C14_4 := rfl
theorem E14_0 : C14_0 = .seq C14_1 C14_2 := rfl
def S14_1s (Q : (Int × Bool) → AW → Prop) (E : List PanicEntry → AW → Prop)  (nx1 : ByteArray → Int → Int → AW → Prop) (s_0 : ByteArray) (n_4 : Int) (i_5 : Int) (aw : AW) : Prop :=
  cnd (decide (i_5 < (s_0.size : Int))) (chr s_0 i_5 fun c2 =>
  cnd (decide ((IntKind.i64.wrap (Int.tdiv (IntKind.i64.wrap (4611686018427387903 - (IntKind.i64.wrap (IntKind.u8.wrap (c2 - 48))))) 10)) < n_4)) (Q (0, false) aw) (nx1 s_0 (IntKind.i64.wrap ((IntKind.i64.wrap (n_4 * 10)) + (IntKind.i64.wrap (IntKind.u8.wrap (c2 - 48))))) (IntKind.i64.wrap (i_5 + 1)) aw)) (Q (n_4, true) aw)
def S14_1 (Q : (Int × Bool) → AW → Prop) (E : List PanicEntry → AW → Prop)  : Nat → ByteArray → Int → Int → AW → Prop
  | 0 => fun _ _ _ _ => False
  | n + 1 => S14_1s Q E  (S14_1 Q E  n)
def S14_0 (Q : (Int × Bool) → AW → Prop) (E : List PanicEntry → AW → Prop)  (s_0 : ByteArray) (aw : AW) : Prop :=
  ∃ n, S14_1 Q E  n s_0 0 0 aw
set_option maxHeartbeats 4000000 in
set_option maxRecDepth 100000 in
theorem S14_1s_ok (Q : (Int × Bool) → AW → Prop) (E : List PanicEntry → AW → Prop)  (nx1 : ByteArray → Int → Int → AW → Prop) (L1 : ∀ (ρ : Env) (s_0 : ByteArray) (n_4 : Int) (i_5 : Int) (aw : AW) (h0 : ρ 0 = .string s_0) (h4 : ρ 4 = .int .i64 n_4) (h5 : ρ 5 = .int .i64 i_5), nx1 s_0 n_4 i_5 aw → AGo prog 28 [.code C14_9, .inLoop C14_9, .inBlock 0, .code C14_29] ρ [] aw (RR prog f14 28 sh14 Q E)) (ρ : Env) (s_0 : ByteArray) (n_4 : Int) (i_5 : Int) (aw : AW) (h0 : ρ 0 = .string s_0) (h4 : ρ 4 = .int .i64 n_4) (h5 : ρ 5 = .int .i64 i_5) (H : S14_1s Q E  nx1 s_0 n_4 i_5 aw) :
    AGo prog 28 [.code C14_9, .inLoop C14_9, .inBlock 0, .code C14_29] ρ [] aw (RR prog f14 28 sh14 Q E) := by
  unfold S14_1s at H
  refine ago_seqE E14_9 ?_
  refine ago_seqE E14_10 ?_
  refine ago_regE E14_11 (l := [0, 1, 2, 3]) rfl ?_
  refine lk (dt := some 7) R14_3_N rfl rfl rfl (opv_move rfl rfl h5) ?_
  refine lk (dt := some 8) R14_3_N rfl rfl rfl (opv_move rfl rfl h0) ?_
  refine lk (dt := some 9) R14_3_N rfl rfl rfl (opv_lenS rfl rfl rfl underlying9 rfl) ?_
  refine lk (dt := some 10) R14_3_N rfl rfl rfl (opv_lt rfl rfl rfl rfl rfl) ?_
  refine aops_nil ?_
  refine ago_condE  E14_12 rfl rfl (fun hb1 => ?_) (fun hb1 => ?_)
  · replace H := cnd_t H hb1
    refine ago_skipE E14_13 ?_
    refine ago_seqE E14_15 ?_
    refine ago_blockE E14_16 ?_
    refine ago_seqE E14_17 ?_
    refine ago_regE E14_18 (l := [0, 1, 2, 3, 4, 5]) rfl ?_
    refine lk (dt := some 13) R14_5_N rfl rfl rfl (opv_move rfl rfl h0) ?_
    refine lk (dt := some 14) R14_5_N rfl rfl rfl (opv_move rfl rfl h5) ?_
    obtain ⟨c2, h03, hj4, hv5, H⟩ := H
    refine lk (dt := some 15) R14_5_N rfl rfl rfl (ov_chr rfl rfl rfl underlying9 rfl rfl h03 hj4 hv5) ?_
    refine lk (dt := some 16) R14_5_N rfl rfl rfl (opv_sub rfl rfl rfl rfl rfl) ?_
    refine lk (dt := some 17) R14_5_N rfl rfl rfl (opv_conv rfl rfl underlying5 underlying2 rfl) ?_
    refine lk (dt := some 6) R14_5_N rfl rfl rfl (opv_assign rfl rfl rfl) ?_
    refine aops_nil ?_
    refine ago_seqE E14_19 ?_
    refine ago_seqE E14_20 ?_
    refine ago_regE E14_21 (l := [0, 1, 2, 3, 4]) rfl ?_
    refine lk (dt := some 18) R14_6_N rfl rfl rfl (opv_move rfl rfl h4) ?_
    refine lk (dt := some 19) R14_6_N rfl rfl rfl (opv_move rfl rfl rfl) ?_
    refine lk (dt := some 20) R14_6_N rfl rfl rfl (opv_sub rfl rfl rfl rfl rfl) ?_
    refine lk (dt := some 21) R14_6_N rfl rfl rfl (opv_quo rfl rfl rfl rfl rfl (by decide)) ?_
    refine lk (dt := some 22) R14_6_N rfl rfl rfl (opv_gt rfl rfl rfl rfl rfl) ?_
    refine aops_nil ?_
    refine ago_condE  E14_22 rfl rfl (fun hb6 => ?_) (fun hb6 => ?_)
    · replace H := cnd_t H hb6
      refine ago_seqE E14_23 ?_
      refine ago_regE E14_24 (l := [0, 1]) rfl ?_
      refine lk (dt := some 2) R14_7_N rfl rfl rfl (opv_assign rfl rfl rfl) ?_
      refine lk (dt := some 3) R14_7_N rfl rfl rfl (opv_assign rfl rfl rfl) ?_
      refine aops_nil ?_
      exact ago_retE E14_25 (r := (0, false)) (ares_2 rfl (oneT rfl) (oneT rfl)) rfl H
    · replace H := cnd_f H hb6
      refine ago_skipE E14_26 ?_
      refine ago_cut (fun ρ => ρ 0 = .string s_0 ∧ ρ 4 = .int .i64 n_4 ∧ ρ 5 = .int .i64 i_5 ∧ ρ 6 = .int .i64 (IntKind.i64.wrap (IntKind.u8.wrap (c2 - 48))) ∧ True) ⟨h0, h4, h5, rfl, trivial⟩ (fun ρ ⟨h0, h4, h5, h6, _⟩ => ?_)
      refine ago_regE E14_27 (l := [0, 1, 2, 3, 4]) rfl ?_
      refine lk (dt := some 23) R14_8_N rfl rfl rfl (opv_move rfl rfl h4) ?_
      refine lk (dt := some 24) R14_8_N rfl rfl rfl (opv_mul rfl rfl rfl rfl rfl) ?_
      refine lk (dt := some 25) R14_8_N rfl rfl rfl (opv_move rfl rfl h6) ?_
      refine lk (dt := some 26) R14_8_N rfl rfl rfl (opv_add rfl rfl rfl rfl rfl) ?_
      refine lk (dt := some 4) R14_8_N rfl rfl rfl (opv_assign rfl rfl rfl) ?_
      refine aops_nil ?_
      refine ago_inBlock ?_
      refine ago_regE E14_28 (l := [0, 1, 2]) rfl ?_
      refine lk (dt := some 11) R14_4_N rfl rfl rfl (opv_move rfl rfl h5) ?_
      refine lk (dt := some 12) R14_4_N rfl rfl rfl (opv_add rfl rfl rfl rfl rfl) ?_
      refine lk (dt := some 5) R14_4_N rfl rfl rfl (opv_assign rfl rfl rfl) ?_
      refine aops_nil ?_
      refine ago_inLoop ?_
      exact L1 _ s_0 (IntKind.i64.wrap ((IntKind.i64.wrap (n_4 * 10)) + (IntKind.i64.wrap (IntKind.u8.wrap (c2 - 48))))) (IntKind.i64.wrap (i_5 + 1)) aw h0 rfl rfl H
  · replace H := cnd_f H hb1
    refine ago_exitE E14_14 rfl ?_
    refine ago_seqE E14_29 ?_
    refine ago_regE E14_30 (l := [0, 1, 2]) rfl ?_
    refine lk (dt := some 27) R14_9_N rfl rfl rfl (opv_move rfl rfl h4) ?_
    refine lk (dt := some 2) R14_9_N rfl rfl rfl (opv_assign rfl rfl rfl) ?_
    refine lk (dt := some 3) R14_9_N rfl rfl rfl (opv_assign rfl rfl rfl) ?_
    refine aops_nil ?_
    exact ago_retE E14_31 (r := (n_4, true)) (ares_2 rfl (oneT rfl) (oneT rfl)) rfl H
theorem S14_1_ok (Q : (Int × Bool) → AW → Prop) (E : List PanicEntry → AW → Prop)  : ∀ (n : Nat) (ρ : Env) (s_0 : ByteArray) (n_4 : Int) (i_5 : Int) (aw : AW) (h0 : ρ 0 = .string s_0) (h4 : ρ 4 = .int .i64 n_4) (h5 : ρ 5 = .int .i64 i_5), S14_1 Q E  n s_0 n_4 i_5 aw →
    AGo prog 28 [.code C14_9, .inLoop C14_9, .inBlock 0, .code C14_29] ρ [] aw (RR prog f14 28 sh14 Q E)
  | 0, _, _, _, _, _, _, _, _ => fun H => H.elim
  | n + 1, ρ, s_0, n_4, i_5, aw, h0, h4, h5 => fun H => S14_1s_ok Q E  _ (S14_1_ok Q E  n) ρ s_0 n_4 i_5 aw h0 h4 h5 H
set_option maxHeartbeats 4000000 in
set_option maxRecDepth 100000 in
theorem S14_0_ok (Q : (Int × Bool) → AW → Prop) (E : List PanicEntry → AW → Prop)  (ρ : Env) (s_0 : ByteArray) (aw : AW) (h0 : ρ 0 = .string s_0) (H : S14_0 Q E  s_0 aw) :
    AGo prog 28 [.code C14_0] ρ [] aw (RR prog f14 28 sh14 Q E) := by
  unfold S14_0 at H
  refine ago_seqE E14_0 ?_
  refine ago_regE E14_1 (l := [0, 1]) rfl ?_
  refine lk (dt := some 2) R14_0_N rfl rfl rfl (opv_assign rfl rfl rfl) ?_
  refine lk (dt := some 3) R14_0_N rfl rfl rfl (opv_assign rfl rfl rfl) ?_
  refine aops_nil ?_
  refine ago_seqE E14_2 ?_
  refine ago_regE E14_3 (l := [0]) rfl ?_
  refine lk (dt := some 4) R14_1_N rfl rfl rfl (opv_assign rfl rfl rfl) ?_
  refine aops_nil ?_
  refine ago_seqE E14_4 ?_
  refine ago_seqE E14_5 ?_
  refine ago_regE E14_6 (l := [0]) rfl ?_
  refine lk (dt := some 5) R14_2_N rfl rfl rfl (opv_assign rfl rfl rfl) ?_
  refine aops_nil ?_
  refine ago_blockE E14_7 ?_
  refine ago_loopE E14_8 ?_
  obtain ⟨n, H⟩ := H
  exact S14_1_ok Q E  n _ s_0 0 0 aw h0 rfl rfl H
theorem F14_ok {Q : (Int × Bool) → AW → Prop} {E : List PanicEntry → AW → Prop} (s_0 : ByteArray) (aw : AW) (H : S14_0 Q E s_0 aw) : CallP prog 14 [.string s_0] aw sh14 Q E :=
  callP_of func14 C14_is rfl (Nat.le_of_ble_eq_true rfl) (S14_0_ok Q E _ s_0 aw rfl H)
/-! ### battledore/battledorelaw03.LexNumbers: function 8 -/
noncomputable def C8_0 : Code := bodyOf f8
theorem C8_is : f8.body = some C8_0 := by kernel_rfl
noncomputable def C8_1 : Code := cl C8_0
noncomputable def R8_0 : Array Oper := regOps C8_1
noncomputable def C8_2 : Code := cr C8_0
noncomputable def C8_3 : Code := cl C8_2
noncomputable def C8_4 : Code := cl C8_3
noncomputable def R8_1 : Array Oper := regOps C8_4
noncomputable def C8_5 : Code := cr C8_3
noncomputable def C8_6 : Code := cl C8_5
noncomputable def C8_7 : Code := cl C8_6
noncomputable def R8_2 : Array Oper := regOps C8_7
noncomputable def C8_8 : Code := cr C8_6
noncomputable def C8_9 : Code := cr C8_5
noncomputable def C8_10 : Code := cr C8_2
noncomputable def C8_11 : Code := cl C8_10
noncomputable def R8_3 : Array Oper := regOps C8_11
noncomputable def C8_12 : Code := cr C8_10
noncomputable def C8_13 : Code := cl C8_12
noncomputable def C8_14 : Code := cl C8_13
noncomputable def R8_4 : Array Oper := regOps C8_14
noncomputable def C8_15 : Code := cr C8_13
noncomputable def C8_16 : Code := cl C8_15
noncomputable def C8_17 : Code := cl C8_16
noncomputable def C8_18 : Code := cl C8_17
noncomputable def C8_19 : Code := cl C8_18
noncomputable def R8_5 : Array Oper := regOps C8_19
noncomputable def C8_20 : Code := cr C8_18
noncomputable def C8_21 : Code := cl C8_20
noncomputable def C8_22 : Code := cr C8_20
noncomputable def C8_23 : Code := cr C8_17
noncomputable def C8_24 : Code := cl C8_23
noncomputable def C8_25 : Code := cl C8_24
noncomputable def R8_7 : Array Oper := regOps C8_25
noncomputable def C8_26 : Code := cr C8_23
noncomputable def R8_6 : Array Oper := regOps C8_26
noncomputable def C8_27 : Code := cr C8_12
noncomputable def C8_28 : Code := cl C8_27
noncomputable def R8_8 : Array Oper := regOps C8_28
noncomputable def C8_29 : Code := cr C8_27
noncomputable def C8_30 : Code := cl C8_29
noncomputable def C8_31 : Code := cl C8_30
noncomputable def R8_9 : Array Oper := regOps C8_31
noncomputable def C8_32 : Code := cr C8_30
noncomputable def C8_33 : Code := cl C8_32
noncomputable def R8_10 : Array Oper := regOps C8_33
noncomputable def C8_34 : Code := cr C8_32
noncomputable def C8_35 : Code := cl C8_34
noncomputable def C8_36 : Code := cl C8_35
noncomputable def R8_11 : Array Oper := regOps C8_36
noncomputable def C8_37 : Code := cr C8_35
noncomputable def C8_38 : Code := cr C8_34
noncomputable def C8_39 : Code := cr C8_29
noncomputable def C8_40 : Code := cl C8_39
noncomputable def R8_12 : Array Oper := regOps C8_40
noncomputable def C8_41 : Code := cr C8_39
noncomputable def C8_42 : Code := cl C8_41
noncomputable def C8_43 : Code := cl C8_42
noncomputable def R8_13 : Array Oper := regOps C8_43
noncomputable def C8_44 : Code := cr C8_42
noncomputable def C8_45 : Code := cl C8_44
noncomputable def C8_46 : Code := cl C8_45
noncomputable def R8_14 : Array Oper := regOps C8_46
noncomputable def C8_47 : Code := cr C8_45
noncomputable def C8_48 : Code := cr C8_44
noncomputable def C8_49 : Code := cr C8_41
noncomputable def C8_50 : Code := cl C8_49
noncomputable def R8_15 : Array Oper := regOps C8_50
noncomputable def C8_51 : Code := cr C8_49
theorem R8_0_N : dstsOk 125 R8_0 = true := by decide +kernel
theorem E8_1 : C8_1 = .region 0 R8_0 false := rfl
theorem R8_1_N : dstsOk 125 R8_1 = true := by decide +kernel
theorem E8_4 : C8_4 = .region 1 R8_1 false := rfl
theorem R8_2_N : dstsOk 125 R8_2 = true := by decide +kernel
theorem E8_7 : C8_7 = .region 2 R8_2 false := rfl
theorem E8_8 : C8_8 = .ret := rfl
theorem E8_6 : C8_6 = .seq C8_7 C8_8 := rfl
theorem E8_9 : C8_9 = .skip := rfl
theorem E8_5 : C8_5 = .cond (.tmp 26) C8_6 C8_9 := rfl
theorem E8_3 : C8_3 = .seq C8_4 C8_5 := rfl
theorem R8_3_N : dstsOk 125 R8_3 = true := by decide +kernel
theorem E8_11 : C8_11 = .region 3 R8_3 false := rfl
theorem R8_4_N : dstsOk 125 R8_4 = true := by decide +kernel
theorem E8_14 : C8_14 = .region 4 R8_4 false := rfl
theorem R8_5_N : dstsOk 125 R8_5 = true := by decide +kernel
theorem E8_19 : C8_19 = .region 5 R8_5 false := rfl
theorem E8_21 : C8_21 = .skip := rfl
theorem E8_22 : C8_22 = .exit 0 := rfl
theorem E8_20 : C8_20 = .cond (.tmp 31) C8_21 C8_22 := rfl
theorem E8_18 : C8_18 = .seq C8_19 C8_20 := rfl
theorem R8_7_N : dstsOk 125 R8_7 = true := by decide +kernel
theorem E8_25 : C8_25 = .region 7 R8_7 false := rfl
theorem E8_24 : C8_24 = .block 1 C8_25 := rfl
theorem R8_6_N : dstsOk 125 R8_6 = true := by decide +kernel
theorem E8_26 : C8_26 = .region 6 R8_6 false := rfl
theorem E8_23 : C8_23 = .seq C8_24 C8_26 := rfl
theorem E8_17 : C8_17 = .seq C8_18 C8_23 := rfl
theorem E8_16 : C8_16 = .loop C8_17 := rfl
theorem E8_15 : C8_15 = .block 0 C8_16 := rfl
theorem E8_13 : C8_13 = .seq C8_14 C8_15 := rfl
theorem R8_8_N : dstsOk 125 R8_8 = true := by decide +kernel
theorem E8_28 : C8_28 = .region 8 R8_8 false := rfl
theorem R8_9_N : dstsOk 125 R8_9 = true := by decide +kernel
theorem E8_31 : C8_31 = .region 9 R8_9 false := rfl
theorem R8_10_N : dstsOk 125 R8_10 = true := by decide +kernel
theorem E8_33 : C8_33 = .region 10 R8_10 false := rfl
theorem R8_11_N : dstsOk 125 R8_11 = true := by decide +kernel
theorem E8_36 : C8_36 = .region 11 R8_11 false := rfl
theorem E8_37 : C8_37 = .ret := rfl
theorem E8_35 : C8_35 = .seq C8_36 C8_37 := rfl
theorem E8_38 : C8_38 = .skip := rfl
theorem E8_34 : C8_34 = .cond (.tmp 56) C8_35 C8_38 := rfl
theorem E8_32 : C8_32 = .seq C8_33 C8_34 := rfl
theorem E8_30 : C8_30 = .seq C8_31 C8_32 := rfl
theorem R8_12_N : dstsOk 125 R8_12 = true := by decide +kernel
theorem E8_40 : C8_40 = .region 12 R8_12 false := rfl
theorem R8_13_N : dstsOk 125 R8_13 = true := by decide +kernel
theorem E8_43 : C8_43 = .region 13 R8_13 false := rfl
theorem R8_14_N : dstsOk 125 R8_14 = true := by decide +kernel
theorem E8_46 : C8_46 = .region 14 R8_14 false := rfl
theorem E8_47 : C8_47 = .ret := rfl
theorem E8_45 : C8_45 = .seq C8_46 C8_47 := rfl
theorem E8_48 : C8_48 = .skip := rfl
theorem E8_44 : C8_44 = .cond (.tmp 94) C8_45 C8_48 := rfl
theorem E8_42 : C8_42 = .seq C8_43 C8_44 := rfl
theorem R8_15_N : dstsOk 125 R8_15 = true := by decide +kernel
theorem E8_50 : C8_50 = .region 15 R8_15 false := rfl
theorem E8_51 : C8_51 = .ret := rfl
theorem E8_49 : C8_49 = .seq C8_50 C8_51 := rfl
theorem E8_41 : C8_41 = .seq C8_42 C8_49 := rfl
theorem E8_39 : C8_39 = .seq C8_40 C8_41 := rfl
theorem E8_29 : C8_29 = .seq C8_30 C8_39 := rfl
theorem E8_27 : C8_27 = .seq C8_28 C8_29 := rfl
theorem E8_12 : C8_12 = .seq C8_13 C8_27 := rfl
theorem E8_10 : C8_10 = .seq C8_11 C8_12 := rfl
theorem E8_2 : C8_2 = .seq C8_3 C8_10 := rfl
theorem E8_0 : C8_0 = .seq C8_1 C8_2 := rfl
def S8_2 (Q : Bool → AW → Prop) (E : List PanicEntry → AW → Prop)  (s_5 : ByteArray) (l_7 : Value) (e_9 : Int) (place_13 : Int) (f_14 : Int) (t_94 : Bool) (aw : AW) : Prop :=
  cnd t_94 (cnd (decide (f_14 = 4)) (Q (decide (place_13 = (s_5.size : Int))) aw) (Q false aw)) (cnd (decide (e_9 = 0)) (slen l_7 fun n4 =>
  cnd (decide (n4 = 2)) (ixS l_7 0 3 fun p11 =>
  fldA p11 0 fun p20 =>
  ldI .u8 aw p20 fun x28 =>
  cnd (decide (x28 = 4)) (ixS l_7 0 3 fun p31 =>
  fldA p31 1 fun p40 =>
  ldS aw p40 fun x48 =>
  Q (decide (x48 = s_5)) aw) (Q false aw)) (Q false aw)) (Q false aw))
def S8_1s (Q : Bool → AW → Prop) (E : List PanicEntry → AW → Prop)  (nx1 : Value → Int → ByteArray → Int → AW → Prop) (p_0 : Value) (c_1 : Int) (s_5 : ByteArray) (i_6 : Int) (aw : AW) : Prop :=
  slen p_0 fun n50 =>
  cnd (decide (i_6 < n50)) (ixS p_0 i_6 1 fun p57 =>
  ldI .u8 aw p57 fun x69 =>
  alcS aw [.int .u8 (IntKind.u8.wrap (48 + (Int.tmod x69 10)))] 5 1 1 fun p71 aw72 =>
  toS aw72 p71 fun s75 =>
  s_5.size + s75.size ≤ 2 ^ 62 ∧ nx1 p_0 c_1 (s_5 ++ s75) (IntKind.i64.wrap (i_6 + 1)) aw72) (CallP prog 10 [.string s_5] aw sh10 (fun r82 aw83 =>
  CallP prog 14 [.string s_5] aw83 sh14 (fun r84 aw85 =>
  cnd (!r84.2) (cnd (decide (r82.2.2 = 1)) (Q (decide (r82.2.1 = 0)) aw85) (Q false aw85)) (alcS aw85 [.int .u8 c_1] 5 1 1 fun p88 aw89 =>
  toS aw89 p88 fun s92 =>
  s_5.size + s92.size ≤ 2 ^ 62 ∧ CallP prog 10 [.string (s_5 ++ s92)] aw89 sh10 (fun r99 aw100 =>
  cnd (decide (97 ≤ c_1)) (cnd (decide (c_1 ≤ 122)) (S8_2 Q E  s_5 r82.1 r82.2.2 r99.2.1 r99.2.2 true aw100) (cnd (decide (65 ≤ c_1)) (cnd (decide (c_1 ≤ 90)) (S8_2 Q E  s_5 r82.1 r82.2.2 r99.2.1 r99.2.2 true aw100) (cnd (decide (c_1 = 95)) (S8_2 Q E  s_5 r82.1 r82.2.2 r99.2.1 r99.2.2 true aw100) (S8_2 Q E  s_5 r82.1 r82.2.2 r99.2.1 r99.2.2 (decide (c_1 = 39)) aw100))) (cnd (decide (c_1 = 95)) (S8_2 Q E  s_5 r82.1 r82.2.2 r99.2.1 r99.2.2 true aw100) (S8_2 Q E  s_5 r82.1 r82.2.2 r99.2.1 r99.2.2 (decide (c_1 = 39)) aw100)))) (cnd (decide (65 ≤ c_1)) (cnd (decide (c_1 ≤ 90)) (S8_2 Q E  s_5 r82.1 r82.2.2 r99.2.1 r99.2.2 true aw100) (cnd (decide (c_1 = 95)) (S8_2 Q E  s_5 r82.1 r82.2.2 r99.2.1 r99.2.2 true aw100) (S8_2 Q E  s_5 r82.1 r82.2.2 r99.2.1 r99.2.2 (decide (c_1 = 39)) aw100))) (cnd (decide (c_1 = 95)) (S8_2 Q E  s_5 r82.1 r82.2.2 r99.2.1 r99.2.2 true aw100) (S8_2 Q E  s_5 r82.1 r82.2.2 r99.2.1 r99.2.2 (decide (c_1 = 39)) aw100)))) E)) E) E)
def S8_1 (Q : Bool → AW → Prop) (E : List PanicEntry → AW → Prop)  : Nat → Value → Int → ByteArray → Int → AW → Prop
  | 0 => fun _ _ _ _ _ => False
  | n + 1 => S8_1s Q E  (S8_1 Q E  n)
def S8_0 (Q : Bool → AW → Prop) (E : List PanicEntry → AW → Prop)  (p_0 : Value) (c_1 : Int) (aw : AW) : Prop :=
  CallP prog 9 [] aw sh9 (fun r111 aw112 =>
  cnd (!r111) (CallP prog 9 [] aw112 sh9 (fun r115 aw116 =>
  Q r115 aw116) E) (slen p_0 fun n117 =>
  cnd (decide (n117 = 0)) (CallP prog 9 [] aw112 sh9 (fun r125 aw126 =>
  Q r125 aw126) E) (slen p_0 fun n127 =>
  cnd (decide (40 < n127)) (CallP prog 9 [] aw112 sh9 (fun r134 aw135 =>
  Q r134 aw135) E) (∃ n, S8_1 Q E  n p_0 c_1 (⟨#[]⟩ : ByteArray) 0 aw112)))) E
set_option maxHeartbeats 4000000 in
set_option maxRecDepth 100000 in
theorem S8_2_ok (Q : Bool → AW → Prop) (E : List PanicEntry → AW → Prop)  (ρ : Env) (s_5 : ByteArray) (l_7 : Value) (e_9 : Int) (place_13 : Int) (f_14 : Int) (t_94 : Bool) (aw : AW) (h5 : ρ 5 = .string s_5) (h7 : ρ 7 = l_7) (h9 : ρ 9 = .int .i64 e_9) (h13 : ρ 13 = .int .i64 place_13) (h14 : ρ 14 = .int .i64 f_14) (h94 : ρ 94 = .bool t_94) (H : S8_2 Q E  s_5 l_7 e_9 place_13 f_14 t_94 aw) :
    AGo prog 125 [.code C8_44, .code C8_49] ρ [] aw (RR prog f8 125 sh8 Q E) := by
  unfold S8_2 at H
  refine ago_condE  E8_44 rfl h94 (fun hb1 => ?_) (fun hb1 => ?_)
  · replace H := cnd_t H hb1
    refine ago_seqE E8_45 ?_
    refine ago_regE E8_46 (l := [0, 1, 2, 3, 4, 5, 6, 7, 8]) rfl ?_
    refine lk (dt := some 95) R8_14_N rfl rfl rfl (opv_move rfl rfl h14) ?_
    refine lk (dt := some 96) R8_14_N rfl rfl rfl (opv_eqI rfl rfl rfl rfl rfl) ?_
    refine lk (dt := some 97) R8_14_N rfl rfl rfl (opv_move rfl rfl rfl) ?_
    rcases Bool.eq_false_or_eq_true (decide (f_14 = 4)) with hb2 | hb2
    · replace H := cnd_t H hb2
      refine lk (dt := some 98) R8_14_N rfl rfl ⟨_, rfl, .inl ⟨_, rfl, gq hb2 rfl⟩⟩ (opv_move rfl rfl h13) ?_
      refine lk (dt := some 99) R8_14_N rfl rfl ⟨_, rfl, .inl ⟨_, rfl, gq hb2 rfl⟩⟩ (opv_move rfl rfl h5) ?_
      refine lk (dt := some 100) R8_14_N rfl rfl ⟨_, rfl, .inl ⟨_, rfl, gq hb2 rfl⟩⟩ (opv_lenS rfl rfl rfl underlying9 rfl) ?_
      refine lk (dt := some 101) R8_14_N rfl rfl ⟨_, rfl, .inl ⟨_, rfl, gq hb2 rfl⟩⟩ (opv_eqI rfl rfl rfl rfl rfl) ?_
      refine lk (dt := some 102) R8_14_N rfl rfl rfl (ov_pickT rfl rfl rfl rfl rfl hb2 rfl) ?_
      refine lk (dt := some 4) R8_14_N rfl rfl rfl (opv_assign rfl rfl rfl) ?_
      refine aops_nil ?_
      exact ago_retE E8_47 (r := (decide (place_13 = (s_5.size : Int)))) (ares_1 rfl (oneT rfl)) rfl H
    · replace H := cnd_f H hb2
      refine lk_skip (dt := some 98) R8_14_N rfl rfl ⟨_, rfl, .inl ⟨_, rfl, gq hb2 rfl⟩⟩ ?_
      refine lk_skip (dt := some 99) R8_14_N rfl rfl ⟨_, rfl, .inl ⟨_, rfl, gq hb2 rfl⟩⟩ ?_
      refine lk_skip (dt := some 100) R8_14_N rfl rfl ⟨_, rfl, .inl ⟨_, rfl, gq hb2 rfl⟩⟩ ?_
      refine lk_skip (dt := some 101) R8_14_N rfl rfl ⟨_, rfl, .inl ⟨_, rfl, gq hb2 rfl⟩⟩ ?_
      refine lk (dt := some 102) R8_14_N rfl rfl rfl (ov_pickF rfl rfl rfl rfl rfl hb2 rfl) ?_
      refine lk (dt := some 4) R8_14_N rfl rfl rfl (opv_assign rfl rfl rfl) ?_
      refine aops_nil ?_
      exact ago_retE E8_47 (r := false) (ares_1 rfl (oneT rfl)) rfl H
  · replace H := cnd_f H hb1
    refine ago_skipE E8_48 ?_
    refine ago_seqE E8_49 ?_
    refine ago_regE E8_50 (l := [0, 1, 2, 3, 4, 5, 6, 7, 8, 9, 10, 11, 12, 13, 14, 15, 16, 17, 18, 19, 20, 21, 22]) rfl ?_
    refine lk (dt := some 103) R8_15_N rfl rfl rfl (opv_move rfl rfl h9) ?_
    refine lk (dt := some 104) R8_15_N rfl rfl rfl (opv_eqI rfl rfl rfl rfl rfl) ?_
    refine lk (dt := some 105) R8_15_N rfl rfl rfl (opv_move rfl rfl rfl) ?_
    rcases Bool.eq_false_or_eq_true (decide (e_9 = 0)) with hb3 | hb3
    · replace H := cnd_t H hb3
      refine lk (dt := some 106) R8_15_N rfl rfl ⟨_, rfl, .inl ⟨_, rfl, gq hb3 rfl⟩⟩ (opv_move rfl rfl h7) ?_
      obtain ⟨q5, l6, c7, n4, hv8, hn9, H⟩ := H
      refine lk (dt := some 107) R8_15_N rfl rfl ⟨_, rfl, .inl ⟨_, rfl, gq hb3 rfl⟩⟩ (ov_len rfl rfl rfl underlying23 rfl hv8 hn9) ?_
      refine lk (dt := some 108) R8_15_N rfl rfl ⟨_, rfl, .inl ⟨_, rfl, gq hb3 rfl⟩⟩ (opv_eqI rfl rfl rfl rfl rfl) ?_
      refine lk (dt := some 109) R8_15_N rfl rfl rfl (ov_pickT rfl rfl rfl rfl rfl hb3 rfl) ?_
      refine lk (dt := some 110) R8_15_N rfl rfl rfl (opv_move rfl rfl rfl) ?_
      rcases Bool.eq_false_or_eq_true (decide (n4 = 2)) with hb10 | hb10
      · replace H := cnd_t H hb10
        refine lk (dt := some 111) R8_15_N rfl rfl ⟨_, rfl, .inl ⟨_, rfl, gq hb10 rfl⟩⟩ (opv_move rfl rfl h7) ?_
        obtain ⟨b12, i13, l14, c15, p11, hp16, h017, hj18, hv19, H⟩ := H
        refine lk (dt := some 112) R8_15_N rfl rfl ⟨_, rfl, .inl ⟨_, rfl, gq hb10 rfl⟩⟩ (ov_ixS rfl rfl rfl underlying23 sz33 rfl rfl hp16 h017 hj18 hv19) ?_
        obtain ⟨b21, i22, p20, hp23, hv24, H⟩ := H
        refine lk (dt := some 113) R8_15_N rfl rfl ⟨_, rfl, .inl ⟨_, rfl, gq hb10 rfl⟩⟩ (ov_fldA rfl rfl underlying33 rfl sz5 (by decide) rfl hp23 rfl hv24) ?_
        obtain ⟨b25, i26, x28, hp27, hg29, H⟩ := H
        refine lk (dt := some 114) R8_15_N rfl rfl ⟨_, rfl, .inl ⟨_, rfl, gq hb10 rfl⟩⟩ (ov_ldI rfl underlying5 rfl rfl hp27 hg29) ?_
        refine lk (dt := some 115) R8_15_N rfl rfl ⟨_, rfl, .inl ⟨_, rfl, gq hb10 rfl⟩⟩ (opv_eqI rfl rfl rfl rfl rfl) ?_
        refine lk (dt := some 116) R8_15_N rfl rfl rfl (ov_pickT rfl rfl rfl rfl rfl hb10 rfl) ?_
        refine lk (dt := some 117) R8_15_N rfl rfl rfl (opv_move rfl rfl rfl) ?_
        rcases Bool.eq_false_or_eq_true (decide (x28 = 4)) with hb30 | hb30
        · replace H := cnd_t H hb30
          refine lk (dt := some 118) R8_15_N rfl rfl ⟨_, rfl, .inl ⟨_, rfl, gq hb30 rfl⟩⟩ (opv_move rfl rfl h7) ?_
          obtain ⟨b32, i33, l34, c35, p31, hp36, h037, hj38, hv39, H⟩ := H
          refine lk (dt := some 119) R8_15_N rfl rfl ⟨_, rfl, .inl ⟨_, rfl, gq hb30 rfl⟩⟩ (ov_ixS rfl rfl rfl underlying23 sz33 rfl rfl hp36 h037 hj38 hv39) ?_
          obtain ⟨b41, i42, p40, hp43, hv44, H⟩ := H
          refine lk (dt := some 120) R8_15_N rfl rfl ⟨_, rfl, .inl ⟨_, rfl, gq hb30 rfl⟩⟩ (ov_fldA rfl rfl underlying33 rfl sz9 (by decide) rfl hp43 rfl hv44) ?_
          obtain ⟨b45, i46, x48, hp47, hg49, H⟩ := H
          refine lk (dt := some 121) R8_15_N rfl rfl ⟨_, rfl, .inl ⟨_, rfl, gq hb30 rfl⟩⟩ (ov_ldS rfl underlying9 rfl rfl hp47 hg49) ?_
          refine lk (dt := some 122) R8_15_N rfl rfl ⟨_, rfl, .inl ⟨_, rfl, gq hb30 rfl⟩⟩ (opv_move rfl rfl h5) ?_
          refine lk (dt := some 123) R8_15_N rfl rfl ⟨_, rfl, .inl ⟨_, rfl, gq hb30 rfl⟩⟩ (opv_eqS rfl rfl rfl rfl rfl) ?_
          refine lk (dt := some 124) R8_15_N rfl rfl rfl (ov_pickT rfl rfl rfl rfl rfl hb30 rfl) ?_
          refine lk (dt := some 4) R8_15_N rfl rfl rfl (opv_assign rfl rfl rfl) ?_
          refine aops_nil ?_
          exact ago_retE E8_51 (r := (decide (x48 = s_5))) (ares_1 rfl (oneT rfl)) rfl H
        · replace H := cnd_f H hb30
          refine lk_skip (dt := some 118) R8_15_N rfl rfl ⟨_, rfl, .inl ⟨_, rfl, gq hb30 rfl⟩⟩ ?_
          refine lk_skip (dt := some 119) R8_15_N rfl rfl ⟨_, rfl, .inl ⟨_, rfl, gq hb30 rfl⟩⟩ ?_
          refine lk_skip (dt := some 120) R8_15_N rfl rfl ⟨_, rfl, .inl ⟨_, rfl, gq hb30 rfl⟩⟩ ?_
          refine lk_skip (dt := some 121) R8_15_N rfl rfl ⟨_, rfl, .inl ⟨_, rfl, gq hb30 rfl⟩⟩ ?_
          refine lk_skip (dt := some 122) R8_15_N rfl rfl ⟨_, rfl, .inl ⟨_, rfl, gq hb30 rfl⟩⟩ ?_
          refine lk_skip (dt := some 123) R8_15_N rfl rfl ⟨_, rfl, .inl ⟨_, rfl, gq hb30 rfl⟩⟩ ?_
          refine lk (dt := some 124) R8_15_N rfl rfl rfl (ov_pickF rfl rfl rfl rfl rfl hb30 rfl) ?_
          refine lk (dt := some 4) R8_15_N rfl rfl rfl (opv_assign rfl rfl rfl) ?_
          refine aops_nil ?_
          exact ago_retE E8_51 (r := false) (ares_1 rfl (oneT rfl)) rfl H
      · replace H := cnd_f H hb10
        refine lk_skip (dt := some 111) R8_15_N rfl rfl ⟨_, rfl, .inl ⟨_, rfl, gq hb10 rfl⟩⟩ ?_
        refine lk_skip (dt := some 112) R8_15_N rfl rfl ⟨_, rfl, .inl ⟨_, rfl, gq hb10 rfl⟩⟩ ?_
        refine lk_skip (dt := some 113) R8_15_N rfl rfl ⟨_, rfl, .inl ⟨_, rfl, gq hb10 rfl⟩⟩ ?_
        refine lk_skip (dt := some 114) R8_15_N rfl rfl ⟨_, rfl, .inl ⟨_, rfl, gq hb10 rfl⟩⟩ ?_
        refine lk_skip (dt := some 115) R8_15_N rfl rfl ⟨_, rfl, .inl ⟨_, rfl, gq hb10 rfl⟩⟩ ?_
        refine lk (dt := some 116) R8_15_N rfl rfl rfl (ov_pickF rfl rfl rfl rfl rfl hb10 rfl) ?_
        refine lk (dt := some 117) R8_15_N rfl rfl rfl (opv_move rfl rfl rfl) ?_
        refine lk_skip (dt := some 118) R8_15_N rfl rfl ⟨_, rfl, .inl ⟨_, rfl, gq rfl rfl⟩⟩ ?_
        refine lk_skip (dt := some 119) R8_15_N rfl rfl ⟨_, rfl, .inl ⟨_, rfl, gq rfl rfl⟩⟩ ?_
        refine lk_skip (dt := some 120) R8_15_N rfl rfl ⟨_, rfl, .inl ⟨_, rfl, gq rfl rfl⟩⟩ ?_
        refine lk_skip (dt := some 121) R8_15_N rfl rfl ⟨_, rfl, .inl ⟨_, rfl, gq rfl rfl⟩⟩ ?_
        refine lk_skip (dt := some 122) R8_15_N rfl rfl ⟨_, rfl, .inl ⟨_, rfl, gq rfl rfl⟩⟩ ?_
        refine lk_skip (dt := some 123) R8_15_N rfl rfl ⟨_, rfl, .inl ⟨_, rfl, gq rfl rfl⟩⟩ ?_
        refine lk (dt := some 124) R8_15_N rfl rfl rfl (ov_pickF rfl rfl rfl rfl rfl rfl rfl) ?_
        refine lk (dt := some 4) R8_15_N rfl rfl rfl (opv_assign rfl rfl rfl) ?_
        refine aops_nil ?_
        exact ago_retE E8_51 (r := false) (ares_1 rfl (oneT rfl)) rfl H
    · replace H := cnd_f H hb3
      refine lk_skip (dt := some 106) R8_15_N rfl rfl ⟨_, rfl, .inl ⟨_, rfl, gq hb3 rfl⟩⟩ ?_
      refine lk_skip (dt := some 107) R8_15_N rfl rfl ⟨_, rfl, .inl ⟨_, rfl, gq hb3 rfl⟩⟩ ?_
      refine lk_skip (dt := some 108) R8_15_N rfl rfl ⟨_, rfl, .inl ⟨_, rfl, gq hb3 rfl⟩⟩ ?_
      refine lk (dt := some 109) R8_15_N rfl rfl rfl (ov_pickF rfl rfl rfl rfl rfl hb3 rfl) ?_
      refine lk (dt := some 110) R8_15_N rfl rfl rfl (opv_move rfl rfl rfl) ?_
      refine lk_skip (dt := some 111) R8_15_N rfl rfl ⟨_, rfl, .inl ⟨_, rfl, gq rfl rfl⟩⟩ ?_
      refine lk_skip (dt := some 112) R8_15_N rfl rfl ⟨_, rfl, .inl ⟨_, rfl, gq rfl rfl⟩⟩ ?_
      refine lk_skip (dt := some 113) R8_15_N rfl rfl ⟨_, rfl, .inl ⟨_, rfl, gq rfl rfl⟩⟩ ?_
      refine lk_skip (dt := some 114) R8_15_N rfl rfl ⟨_, rfl, .inl ⟨_, rfl, gq rfl rfl⟩⟩ ?_
      refine lk_skip (dt := some 115) R8_15_N rfl rfl ⟨_, rfl, .inl ⟨_, rfl, gq rfl rfl⟩⟩ ?_
      refine lk (dt := some 116) R8_15_N rfl rfl rfl (ov_pickF rfl rfl rfl rfl rfl rfl rfl) ?_
      refine lk (dt := some 117) R8_15_N rfl rfl rfl (opv_move rfl rfl rfl) ?_
      refine lk_skip (dt := some 118) R8_15_N rfl rfl ⟨_, rfl, .inl ⟨_, rfl, gq rfl rfl⟩⟩ ?_
      refine lk_skip (dt := some 119) R8_15_N rfl rfl ⟨_, rfl, .inl ⟨_, rfl, gq rfl rfl⟩⟩ ?_
      refine lk_skip (dt := some 120) R8_15_N rfl rfl ⟨_, rfl, .inl ⟨_, rfl, gq rfl rfl⟩⟩ ?_
      refine lk_skip (dt := some 121) R8_15_N rfl rfl ⟨_, rfl, .inl ⟨_, rfl, gq rfl rfl⟩⟩ ?_
      refine lk_skip (dt := some 122) R8_15_N rfl rfl ⟨_, rfl, .inl ⟨_, rfl, gq rfl rfl⟩⟩ ?_
      refine lk_skip (dt := some 123) R8_15_N rfl rfl ⟨_, rfl, .inl ⟨_, rfl, gq rfl rfl⟩⟩ ?_
      refine lk (dt := some 124) R8_15_N rfl rfl rfl (ov_pickF rfl rfl rfl rfl rfl rfl rfl) ?_
      refine lk (dt := some 4) R8_15_N rfl rfl rfl (opv_assign rfl rfl rfl) ?_
      refine aops_nil ?_
      exact ago_retE E8_51 (r := false) (ares_1 rfl (oneT rfl)) rfl H
set_option maxHeartbeats 4000000 in
set_option maxRecDepth 100000 in
theorem S8_1s_ok (Q : Bool → AW → Prop) (E : List PanicEntry → AW → Prop)  (nx1 : Value → Int → ByteArray → Int → AW → Prop) (L1 : ∀ (ρ : Env) (p_0 : Value) (c_1 : Int) (s_5 : ByteArray) (i_6 : Int) (aw : AW) (h0 : ρ 0 = p_0) (h1 : ρ 1 = .int .u8 c_1) (h5 : ρ 5 = .string s_5) (h6 : ρ 6 = .int .i64 i_6), nx1 p_0 c_1 s_5 i_6 aw → AGo prog 125 [.code C8_17, .inLoop C8_17, .inBlock 0, .code C8_27] ρ [] aw (RR prog f8 125 sh8 Q E)) (ρ : Env) (p_0 : Value) (c_1 : Int) (s_5 : ByteArray) (i_6 : Int) (aw : AW) (h0 : ρ 0 = p_0) (h1 : ρ 1 = .int .u8 c_1) (h5 : ρ 5 = .string s_5) (h6 : ρ 6 = .int .i64 i_6) (H : S8_1s Q E  nx1 p_0 c_1 s_5 i_6 aw) :
    AGo prog 125 [.code C8_17, .inLoop C8_17, .inBlock 0, .code C8_27] ρ [] aw (RR prog f8 125 sh8 Q E) := by
  unfold S8_1s at H
  refine ago_seqE E8_17 ?_
  refine ago_seqE E8_18 ?_
  refine ago_regE E8_19 (l := [0, 1, 2, 3]) rfl ?_
  refine lk (dt := some 28) R8_5_N rfl rfl rfl (opv_move rfl rfl h6) ?_
  refine lk (dt := some 29) R8_5_N rfl rfl rfl (opv_move rfl rfl h0) ?_
  obtain ⟨q51, l52, c53, n50, hv54, hn55, H⟩ := H
  refine lk (dt := some 30) R8_5_N rfl rfl rfl (ov_len rfl rfl rfl underlying30 rfl hv54 hn55) ?_
  refine lk (dt := some 31) R8_5_N rfl rfl rfl (opv_lt rfl rfl rfl rfl rfl) ?_
  refine aops_nil ?_
  refine ago_condE  E8_20 rfl rfl (fun hb56 => ?_) (fun hb56 => ?_)
  · replace H := cnd_t H hb56
    refine ago_skipE E8_21 ?_
    refine ago_seqE E8_23 ?_
    refine ago_blockE E8_24 ?_
    refine ago_regE E8_25 (l := [0, 1, 2, 3, 4, 5, 6, 7, 8, 9, 10]) rfl ?_
    refine lk (dt := some 34) R8_7_N rfl rfl rfl (opv_move rfl rfl h5) ?_
    refine lk (dt := some 35) R8_7_N rfl rfl rfl (opv_move rfl rfl h0) ?_
    refine lk (dt := some 36) R8_7_N rfl rfl rfl (opv_move rfl rfl h6) ?_
    obtain ⟨b58, i59, l60, c61, p57, hp62, h063, hj64, hv65, H⟩ := H
    refine lk (dt := some 37) R8_7_N rfl rfl rfl (ov_ixS rfl rfl rfl underlying30 sz5 rfl rfl hp62 h063 hj64 hv65) ?_
    obtain ⟨b66, i67, x69, hp68, hg70, H⟩ := H
    refine lk (dt := some 38) R8_7_N rfl rfl rfl (ov_ldI rfl underlying5 rfl rfl hp68 hg70) ?_
    refine lk (dt := some 39) R8_7_N rfl rfl rfl (opv_rem rfl rfl rfl rfl rfl (by decide)) ?_
    refine lk (dt := some 40) R8_7_N rfl rfl rfl (opv_add rfl rfl rfl rfl rfl) ?_
    obtain ⟨p71, aw72, hp73, ha74, H⟩ := H
    refine lk (dt := some 41) R8_7_N rfl rfl rfl (ov_bsA (r := [.int .u8 (IntKind.u8.wrap (48 + (Int.tmod x69 10)))]) (vs := [.int .u8 (IntKind.u8.wrap (48 + (Int.tmod x69 10)))]) rfl rfl underlying30 sz5 z5 rfl rfl rfl rfl rfl (mp_cons rfl rfl) (.one rfl .nil) hp73 ha74) ?_
    obtain ⟨l80, n79, s75, hs76, hq77, hv78, H⟩ := H
    refine lk (dt := some 42) R8_7_N rfl rfl rfl (ov_toS rfl rfl underlying30 underlying9 underlying5 rfl hs76 hq77 hv78) ?_
    obtain ⟨hz81, H⟩ := H
    refine lk (dt := some 43) R8_7_N rfl rfl rfl (opv_cat rfl rfl rfl rfl rfl hz81) ?_
    refine lk (dt := some 5) R8_7_N rfl rfl rfl (opv_assign rfl rfl rfl) ?_
    refine aops_nil ?_
    refine ago_inBlock ?_
    refine ago_cut (fun ρ => ρ 0 = p_0 ∧ ρ 1 = .int .u8 c_1 ∧ ρ 5 = .string (s_5 ++ s75) ∧ ρ 6 = .int .i64 i_6 ∧ True) ⟨h0, h1, rfl, h6, trivial⟩ (fun ρ ⟨h0, h1, h5, h6, _⟩ => ?_)
    refine ago_regE E8_26 (l := [0, 1, 2]) rfl ?_
    refine lk (dt := some 32) R8_6_N rfl rfl rfl (opv_move rfl rfl h6) ?_
    refine lk (dt := some 33) R8_6_N rfl rfl rfl (opv_add rfl rfl rfl rfl rfl) ?_
    refine lk (dt := some 6) R8_6_N rfl rfl rfl (opv_assign rfl rfl rfl) ?_
    refine aops_nil ?_
    refine ago_inLoop ?_
    exact L1 _ p_0 c_1 (s_5 ++ s75) (IntKind.i64.wrap (i_6 + 1)) aw72 h0 h1 h5 rfl H
  · replace H := cnd_f H hb56
    refine ago_exitE E8_22 rfl ?_
    refine ago_seqE E8_27 ?_
    refine ago_regE E8_28 (l := [0, 1, 2, 3, 4, 5, 6, 7, 8]) rfl ?_
    refine lk (dt := some 45) R8_8_N rfl rfl rfl (opv_move rfl rfl h5) ?_
    refine lk_call (dt := some 46) R8_8_N rfl rfl rfl (opc_of rfl rfl is10 (ma_cons rfl rfl)) H (fun _ _ h => ⟨rfl, h⟩) fun r82 aw83 H => ?_
    refine lk (dt := some 44) R8_8_N rfl rfl rfl (opv_move rfl rfl rfl) ?_
    refine lk (dt := some 47) R8_8_N rfl rfl rfl (opv_extract rfl rfl rfl rfl) ?_
    refine lk (dt := some 48) R8_8_N rfl rfl rfl (opv_extract rfl rfl rfl rfl) ?_
    refine lk (dt := some 49) R8_8_N rfl rfl rfl (opv_extract rfl rfl rfl rfl) ?_
    refine lk (dt := some 7) R8_8_N rfl rfl rfl (opv_assign rfl rfl rfl) ?_
    refine lk (dt := some 8) R8_8_N rfl rfl rfl (opv_assign rfl rfl rfl) ?_
    refine lk (dt := some 9) R8_8_N rfl rfl rfl (opv_assign rfl rfl rfl) ?_
    refine aops_nil ?_
    refine ago_seqE E8_29 ?_
    refine ago_seqE E8_30 ?_
    refine ago_cut (fun ρ => ρ 1 = .int .u8 c_1 ∧ ρ 5 = .string s_5 ∧ ρ 7 = r82.1 ∧ ρ 8 = .int .i64 r82.2.1 ∧ ρ 9 = .int .i64 r82.2.2 ∧ True) ⟨h1, h5, rfl, rfl, rfl, trivial⟩ (fun ρ ⟨h1, h5, h7, h8, h9, _⟩ => ?_)
    refine ago_regE E8_31 (l := [0, 1, 2, 3, 4, 5, 6]) rfl ?_
    refine lk (dt := some 51) R8_9_N rfl rfl rfl (opv_move rfl rfl h5) ?_
    refine lk_call (dt := some 52) R8_9_N rfl rfl rfl (opc_of rfl rfl is14 (ma_cons rfl rfl)) H (fun _ _ h => ⟨rfl, h⟩) fun r84 aw85 H => ?_
    refine lk (dt := some 50) R8_9_N rfl rfl rfl (opv_move rfl rfl rfl) ?_
    refine lk (dt := some 53) R8_9_N rfl rfl rfl (opv_extract rfl rfl rfl rfl) ?_
    refine lk (dt := some 54) R8_9_N rfl rfl rfl (opv_extract rfl rfl rfl rfl) ?_
    refine lk (dt := some 10) R8_9_N rfl rfl rfl (opv_assign rfl rfl rfl) ?_
    refine lk (dt := some 11) R8_9_N rfl rfl rfl (opv_assign rfl rfl rfl) ?_
    refine aops_nil ?_
    refine ago_seqE E8_32 ?_
    refine ago_regE E8_33 (l := [0, 1]) rfl ?_
    refine lk (dt := some 55) R8_10_N rfl rfl rfl (opv_move rfl rfl rfl) ?_
    refine lk (dt := some 56) R8_10_N rfl rfl rfl (opv_not rfl rfl rfl) ?_
    refine aops_nil ?_
    refine ago_condE  E8_34 rfl rfl (fun hb86 => ?_) (fun hb86 => ?_)
    · replace H := cnd_t H hb86
      refine ago_seqE E8_35 ?_
      refine ago_regE E8_36 (l := [0, 1, 2, 3, 4, 5, 6]) rfl ?_
      refine lk (dt := some 57) R8_11_N rfl rfl rfl (opv_move rfl rfl h9) ?_
      refine lk (dt := some 58) R8_11_N rfl rfl rfl (opv_eqI rfl rfl rfl rfl rfl) ?_
      refine lk (dt := some 59) R8_11_N rfl rfl rfl (opv_move rfl rfl rfl) ?_
      rcases Bool.eq_false_or_eq_true (decide (r82.2.2 = 1)) with hb87 | hb87
      · replace H := cnd_t H hb87
        refine lk (dt := some 60) R8_11_N rfl rfl ⟨_, rfl, .inl ⟨_, rfl, gq hb87 rfl⟩⟩ (opv_move rfl rfl h8) ?_
        refine lk (dt := some 61) R8_11_N rfl rfl ⟨_, rfl, .inl ⟨_, rfl, gq hb87 rfl⟩⟩ (opv_eqI rfl rfl rfl rfl rfl) ?_
        refine lk (dt := some 62) R8_11_N rfl rfl rfl (ov_pickT rfl rfl rfl rfl rfl hb87 rfl) ?_
        refine lk (dt := some 4) R8_11_N rfl rfl rfl (opv_assign rfl rfl rfl) ?_
        refine aops_nil ?_
        exact ago_retE E8_37 (r := (decide (r82.2.1 = 0))) (ares_1 rfl (oneT rfl)) rfl H
      · replace H := cnd_f H hb87
        refine lk_skip (dt := some 60) R8_11_N rfl rfl ⟨_, rfl, .inl ⟨_, rfl, gq hb87 rfl⟩⟩ ?_
        refine lk_skip (dt := some 61) R8_11_N rfl rfl ⟨_, rfl, .inl ⟨_, rfl, gq hb87 rfl⟩⟩ ?_
        refine lk (dt := some 62) R8_11_N rfl rfl rfl (ov_pickF rfl rfl rfl rfl rfl hb87 rfl) ?_
        refine lk (dt := some 4) R8_11_N rfl rfl rfl (opv_assign rfl rfl rfl) ?_
        refine aops_nil ?_
        exact ago_retE E8_37 (r := false) (ares_1 rfl (oneT rfl)) rfl H
    · replace H := cnd_f H hb86
      refine ago_skipE E8_38 ?_
      refine ago_seqE E8_39 ?_
      refine ago_regE E8_40 (l := [0, 1, 2, 3, 4, 5, 6, 7, 8, 9, 10, 11, 12]) rfl ?_
      refine lk (dt := some 64) R8_12_N rfl rfl rfl (opv_move rfl rfl h5) ?_
      refine lk (dt := some 65) R8_12_N rfl rfl rfl (opv_move rfl rfl h1) ?_
      obtain ⟨p88, aw89, hp90, ha91, H⟩ := H
      refine lk (dt := some 66) R8_12_N rfl rfl rfl (ov_bsA (r := [.int .u8 c_1]) (vs := [.int .u8 c_1]) rfl rfl underlying30 sz5 z5 rfl rfl rfl rfl rfl (mp_cons rfl rfl) (.one rfl .nil) hp90 ha91) ?_
      obtain ⟨l97, n96, s92, hs93, hq94, hv95, H⟩ := H
      refine lk (dt := some 67) R8_12_N rfl rfl rfl (ov_toS rfl rfl underlying30 underlying9 underlying5 rfl hs93 hq94 hv95) ?_
      obtain ⟨hz98, H⟩ := H
      refine lk (dt := some 68) R8_12_N rfl rfl rfl (opv_cat rfl rfl rfl rfl rfl hz98) ?_
      refine lk_call (dt := some 69) R8_12_N rfl rfl rfl (opc_of rfl rfl is10 (ma_cons rfl rfl)) H (fun _ _ h => ⟨rfl, h⟩) fun r99 aw100 H => ?_
      refine lk (dt := some 63) R8_12_N rfl rfl rfl (opv_move rfl rfl rfl) ?_
      refine lk (dt := some 70) R8_12_N rfl rfl rfl (opv_extract rfl rfl rfl rfl) ?_
      refine lk (dt := some 71) R8_12_N rfl rfl rfl (opv_extract rfl rfl rfl rfl) ?_
      refine lk (dt := some 72) R8_12_N rfl rfl rfl (opv_extract rfl rfl rfl rfl) ?_
      refine lk (dt := some 12) R8_12_N rfl rfl rfl (opv_assign rfl rfl rfl) ?_
      refine lk (dt := some 13) R8_12_N rfl rfl rfl (opv_assign rfl rfl rfl) ?_
      refine lk (dt := some 14) R8_12_N rfl rfl rfl (opv_assign rfl rfl rfl) ?_
      refine aops_nil ?_
      refine ago_seqE E8_41 ?_
      refine ago_seqE E8_42 ?_
      refine ago_cut (fun ρ => ρ 1 = .int .u8 c_1 ∧ ρ 5 = .string s_5 ∧ ρ 7 = r82.1 ∧ ρ 9 = .int .i64 r82.2.2 ∧ ρ 13 = .int .i64 r99.2.1 ∧ ρ 14 = .int .i64 r99.2.2 ∧ True) ⟨h1, h5, h7, h9, rfl, rfl, trivial⟩ (fun ρ ⟨h1, h5, h7, h9, h13, h14, _⟩ => ?_)
      refine ago_regE E8_43 (l := [0, 1, 2, 3, 4, 5, 6, 7, 8, 9, 10, 11, 12, 13, 14, 15, 16, 17, 18, 19, 20, 21]) rfl ?_
      refine lk (dt := some 73) R8_13_N rfl rfl rfl (opv_move rfl rfl h1) ?_
      refine lk (dt := some 74) R8_13_N rfl rfl rfl (opv_ge rfl rfl rfl rfl rfl) ?_
      refine lk (dt := some 75) R8_13_N rfl rfl rfl (opv_move rfl rfl rfl) ?_
      rcases Bool.eq_false_or_eq_true (decide (97 ≤ c_1)) with hb101 | hb101
      · replace H := cnd_t H hb101
        refine lk (dt := some 76) R8_13_N rfl rfl ⟨_, rfl, .inl ⟨_, rfl, gq hb101 rfl⟩⟩ (opv_move rfl rfl h1) ?_
        refine lk (dt := some 77) R8_13_N rfl rfl ⟨_, rfl, .inl ⟨_, rfl, gq hb101 rfl⟩⟩ (opv_le rfl rfl rfl rfl rfl) ?_
        refine lk (dt := some 78) R8_13_N rfl rfl rfl (ov_pickT rfl rfl rfl rfl rfl hb101 rfl) ?_
        refine lk (dt := some 79) R8_13_N rfl rfl rfl (opv_move rfl rfl rfl) ?_
        rcases Bool.eq_false_or_eq_true (decide (c_1 ≤ 122)) with hb102 | hb102
        · replace H := cnd_t H hb102
          refine lk_skip (dt := some 80) R8_13_N rfl rfl ⟨_, rfl, .inl ⟨_, rfl, gq hb102 rfl⟩⟩ ?_
          refine lk_skip (dt := some 81) R8_13_N rfl rfl ⟨_, rfl, .inl ⟨_, rfl, gq hb102 rfl⟩⟩ ?_
          refine lk_skip (dt := some 82) R8_13_N rfl rfl ⟨_, rfl, .inl ⟨_, rfl, gq hb102 rfl⟩⟩ ?_
          refine lk_skip (dt := some 83) R8_13_N rfl rfl ⟨_, rfl, .inr ⟨rfl, rfl⟩⟩ ?_
          refine lk_skip (dt := some 84) R8_13_N rfl rfl ⟨_, rfl, .inr ⟨rfl, rfl⟩⟩ ?_
          refine lk_skip (dt := some 85) R8_13_N rfl rfl ⟨_, rfl, .inl ⟨_, rfl, gq hb102 rfl⟩⟩ ?_
          refine lk (dt := some 86) R8_13_N rfl rfl rfl (ov_pickT rfl rfl rfl rfl rfl hb102 rfl) ?_
          refine lk (dt := some 87) R8_13_N rfl rfl rfl (opv_move rfl rfl rfl) ?_
          refine lk_skip (dt := some 88) R8_13_N rfl rfl ⟨_, rfl, .inl ⟨_, rfl, gq rfl rfl⟩⟩ ?_
          refine lk_skip (dt := some 89) R8_13_N rfl rfl ⟨_, rfl, .inl ⟨_, rfl, gq rfl rfl⟩⟩ ?_
          refine lk (dt := some 90) R8_13_N rfl rfl rfl (ov_pickT rfl rfl rfl rfl rfl rfl rfl) ?_
          refine lk (dt := some 91) R8_13_N rfl rfl rfl (opv_move rfl rfl rfl) ?_
          refine lk_skip (dt := some 92) R8_13_N rfl rfl ⟨_, rfl, .inl ⟨_, rfl, gq rfl rfl⟩⟩ ?_
          refine lk_skip (dt := some 93) R8_13_N rfl rfl ⟨_, rfl, .inl ⟨_, rfl, gq rfl rfl⟩⟩ ?_
          refine lk (dt := some 94) R8_13_N rfl rfl rfl (ov_pickT rfl rfl rfl rfl rfl rfl rfl) ?_
          refine aops_nil ?_
          exact S8_2_ok Q E  _ s_5 r82.1 r82.2.2 r99.2.1 r99.2.2 true aw100 h5 h7 h9 h13 h14 rfl H
        · replace H := cnd_f H hb102
          refine lk (dt := some 80) R8_13_N rfl rfl ⟨_, rfl, .inl ⟨_, rfl, gq hb102 rfl⟩⟩ (opv_move rfl rfl h1) ?_
          refine lk (dt := some 81) R8_13_N rfl rfl ⟨_, rfl, .inl ⟨_, rfl, gq hb102 rfl⟩⟩ (opv_ge rfl rfl rfl rfl rfl) ?_
          refine lk (dt := some 82) R8_13_N rfl rfl ⟨_, rfl, .inl ⟨_, rfl, gq hb102 rfl⟩⟩ (opv_move rfl rfl rfl) ?_
          rcases Bool.eq_false_or_eq_true (decide (65 ≤ c_1)) with hb103 | hb103
          · replace H := cnd_t H hb103
            refine lk (dt := some 83) R8_13_N rfl rfl ⟨_, rfl, .inl ⟨_, rfl, gq hb103 rfl⟩⟩ (opv_move rfl rfl h1) ?_
            refine lk (dt := some 84) R8_13_N rfl rfl ⟨_, rfl, .inl ⟨_, rfl, gq hb103 rfl⟩⟩ (opv_le rfl rfl rfl rfl rfl) ?_
            refine lk (dt := some 85) R8_13_N rfl rfl ⟨_, rfl, .inl ⟨_, rfl, gq hb102 rfl⟩⟩ (ov_pickT rfl rfl rfl rfl rfl hb103 rfl) ?_
            refine lk (dt := some 86) R8_13_N rfl rfl rfl (ov_pickF rfl rfl rfl rfl rfl hb102 rfl) ?_
            refine lk (dt := some 87) R8_13_N rfl rfl rfl (opv_move rfl rfl rfl) ?_
            rcases Bool.eq_false_or_eq_true (decide (c_1 ≤ 90)) with hb104 | hb104
            · replace H := cnd_t H hb104
              refine lk_skip (dt := some 88) R8_13_N rfl rfl ⟨_, rfl, .inl ⟨_, rfl, gq hb104 rfl⟩⟩ ?_
              refine lk_skip (dt := some 89) R8_13_N rfl rfl ⟨_, rfl, .inl ⟨_, rfl, gq hb104 rfl⟩⟩ ?_
              refine lk (dt := some 90) R8_13_N rfl rfl rfl (ov_pickT rfl rfl rfl rfl rfl hb104 rfl) ?_
              refine lk (dt := some 91) R8_13_N rfl rfl rfl (opv_move rfl rfl rfl) ?_
              refine lk_skip (dt := some 92) R8_13_N rfl rfl ⟨_, rfl, .inl ⟨_, rfl, gq rfl rfl⟩⟩ ?_
              refine lk_skip (dt := some 93) R8_13_N rfl rfl ⟨_, rfl, .inl ⟨_, rfl, gq rfl rfl⟩⟩ ?_
              refine lk (dt := some 94) R8_13_N rfl rfl rfl (ov_pickT rfl rfl rfl rfl rfl rfl rfl) ?_
              refine aops_nil ?_
              exact S8_2_ok Q E  _ s_5 r82.1 r82.2.2 r99.2.1 r99.2.2 true aw100 h5 h7 h9 h13 h14 rfl H
            · replace H := cnd_f H hb104
              refine lk (dt := some 88) R8_13_N rfl rfl ⟨_, rfl, .inl ⟨_, rfl, gq hb104 rfl⟩⟩ (opv_move rfl rfl h1) ?_
              refine lk (dt := some 89) R8_13_N rfl rfl ⟨_, rfl, .inl ⟨_, rfl, gq hb104 rfl⟩⟩ (opv_eqI rfl rfl rfl rfl rfl) ?_
              refine lk (dt := some 90) R8_13_N rfl rfl rfl (ov_pickF rfl rfl rfl rfl rfl hb104 rfl) ?_
              refine lk (dt := some 91) R8_13_N rfl rfl rfl (opv_move rfl rfl rfl) ?_
              rcases Bool.eq_false_or_eq_true (decide (c_1 = 95)) with hb105 | hb105
              · replace H := cnd_t H hb105
                refine lk_skip (dt := some 92) R8_13_N rfl rfl ⟨_, rfl, .inl ⟨_, rfl, gq hb105 rfl⟩⟩ ?_
                refine lk_skip (dt := some 93) R8_13_N rfl rfl ⟨_, rfl, .inl ⟨_, rfl, gq hb105 rfl⟩⟩ ?_
                refine lk (dt := some 94) R8_13_N rfl rfl rfl (ov_pickT rfl rfl rfl rfl rfl hb105 rfl) ?_
                refine aops_nil ?_
                exact S8_2_ok Q E  _ s_5 r82.1 r82.2.2 r99.2.1 r99.2.2 true aw100 h5 h7 h9 h13 h14 rfl H
              · replace H := cnd_f H hb105
                refine lk (dt := some 92) R8_13_N rfl rfl ⟨_, rfl, .inl ⟨_, rfl, gq hb105 rfl⟩⟩ (opv_move rfl rfl h1) ?_
                refine lk (dt := some 93) R8_13_N rfl rfl ⟨_, rfl, .inl ⟨_, rfl, gq hb105 rfl⟩⟩ (opv_eqI rfl rfl rfl rfl rfl) ?_
                refine lk (dt := some 94) R8_13_N rfl rfl rfl (ov_pickF rfl rfl rfl rfl rfl hb105 rfl) ?_
                refine aops_nil ?_
                exact S8_2_ok Q E  _ s_5 r82.1 r82.2.2 r99.2.1 r99.2.2 (decide (c_1 = 39)) aw100 h5 h7 h9 h13 h14 rfl H
          · replace H := cnd_f H hb103
            refine lk_skip (dt := some 83) R8_13_N rfl rfl ⟨_, rfl, .inl ⟨_, rfl, gq hb103 rfl⟩⟩ ?_
            refine lk_skip (dt := some 84) R8_13_N rfl rfl ⟨_, rfl, .inl ⟨_, rfl, gq hb103 rfl⟩⟩ ?_
            refine lk (dt := some 85) R8_13_N rfl rfl ⟨_, rfl, .inl ⟨_, rfl, gq hb102 rfl⟩⟩ (ov_pickF rfl rfl rfl rfl rfl hb103 rfl) ?_
            refine lk (dt := some 86) R8_13_N rfl rfl rfl (ov_pickF rfl rfl rfl rfl rfl hb102 rfl) ?_
            refine lk (dt := some 87) R8_13_N rfl rfl rfl (opv_move rfl rfl rfl) ?_
            refine lk (dt := some 88) R8_13_N rfl rfl ⟨_, rfl, .inl ⟨_, rfl, gq rfl rfl⟩⟩ (opv_move rfl rfl h1) ?_
            refine lk (dt := some 89) R8_13_N rfl rfl ⟨_, rfl, .inl ⟨_, rfl, gq rfl rfl⟩⟩ (opv_eqI rfl rfl rfl rfl rfl) ?_
            refine lk (dt := some 90) R8_13_N rfl rfl rfl (ov_pickF rfl rfl rfl rfl rfl rfl rfl) ?_
            refine lk (dt := some 91) R8_13_N rfl rfl rfl (opv_move rfl rfl rfl) ?_
            rcases Bool.eq_false_or_eq_true (decide (c_1 = 95)) with hb106 | hb106
            · replace H := cnd_t H hb106
              refine lk_skip (dt := some 92) R8_13_N rfl rfl ⟨_, rfl, .inl ⟨_, rfl, gq hb106 rfl⟩⟩ ?_
              refine lk_skip (dt := some 93) R8_13_N rfl rfl ⟨_, rfl, .inl ⟨_, rfl, gq hb106 rfl⟩⟩ ?_
              refine lk (dt := some 94) R8_13_N rfl rfl rfl (ov_pickT rfl rfl rfl rfl rfl hb106 rfl) ?_
              refine aops_nil ?_
              exact S8_2_ok Q E  _ s_5 r82.1 r82.2.2 r99.2.1 r99.2.2 true aw100 h5 h7 h9 h13 h14 rfl H
            · replace H := cnd_f H hb106
              refine lk (dt := some 92) R8_13_N rfl rfl ⟨_, rfl, .inl ⟨_, rfl, gq hb106 rfl⟩⟩ (opv_move rfl rfl h1) ?_
              refine lk (dt := some 93) R8_13_N rfl rfl ⟨_, rfl, .inl ⟨_, rfl, gq hb106 rfl⟩⟩ (opv_eqI rfl rfl rfl rfl rfl) ?_
              refine lk (dt := some 94) R8_13_N rfl rfl rfl (ov_pickF rfl rfl rfl rfl rfl hb106 rfl) ?_
              refine aops_nil ?_
              exact S8_2_ok Q E  _ s_5 r82.1 r82.2.2 r99.2.1 r99.2.2 (decide (c_1 = 39)) aw100 h5 h7 h9 h13 h14 rfl H
      · replace H := cnd_f H hb101
        refine lk_skip (dt := some 76) R8_13_N rfl rfl ⟨_, rfl, .inl ⟨_, rfl, gq hb101 rfl⟩⟩ ?_
        refine lk_skip (dt := some 77) R8_13_N rfl rfl ⟨_, rfl, .inl ⟨_, rfl, gq hb101 rfl⟩⟩ ?_
        refine lk (dt := some 78) R8_13_N rfl rfl rfl (ov_pickF rfl rfl rfl rfl rfl hb101 rfl) ?_
        refine lk (dt := some 79) R8_13_N rfl rfl rfl (opv_move rfl rfl rfl) ?_
        refine lk (dt := some 80) R8_13_N rfl rfl ⟨_, rfl, .inl ⟨_, rfl, gq rfl rfl⟩⟩ (opv_move rfl rfl h1) ?_
        refine lk (dt := some 81) R8_13_N rfl rfl ⟨_, rfl, .inl ⟨_, rfl, gq rfl rfl⟩⟩ (opv_ge rfl rfl rfl rfl rfl) ?_
        refine lk (dt := some 82) R8_13_N rfl rfl ⟨_, rfl, .inl ⟨_, rfl, gq rfl rfl⟩⟩ (opv_move rfl rfl rfl) ?_
        rcases Bool.eq_false_or_eq_true (decide (65 ≤ c_1)) with hb107 | hb107
        · replace H := cnd_t H hb107
          refine lk (dt := some 83) R8_13_N rfl rfl ⟨_, rfl, .inl ⟨_, rfl, gq hb107 rfl⟩⟩ (opv_move rfl rfl h1) ?_
          refine lk (dt := some 84) R8_13_N rfl rfl ⟨_, rfl, .inl ⟨_, rfl, gq hb107 rfl⟩⟩ (opv_le rfl rfl rfl rfl rfl) ?_
          refine lk (dt := some 85) R8_13_N rfl rfl ⟨_, rfl, .inl ⟨_, rfl, gq rfl rfl⟩⟩ (ov_pickT rfl rfl rfl rfl rfl hb107 rfl) ?_
          refine lk (dt := some 86) R8_13_N rfl rfl rfl (ov_pickF rfl rfl rfl rfl rfl rfl rfl) ?_
          refine lk (dt := some 87) R8_13_N rfl rfl rfl (opv_move rfl rfl rfl) ?_
          rcases Bool.eq_false_or_eq_true (decide (c_1 ≤ 90)) with hb108 | hb108
          · replace H := cnd_t H hb108
            refine lk_skip (dt := some 88) R8_13_N rfl rfl ⟨_, rfl, .inl ⟨_, rfl, gq hb108 rfl⟩⟩ ?_
            refine lk_skip (dt := some 89) R8_13_N rfl rfl ⟨_, rfl, .inl ⟨_, rfl, gq hb108 rfl⟩⟩ ?_
            refine lk (dt := some 90) R8_13_N rfl rfl rfl (ov_pickT rfl rfl rfl rfl rfl hb108 rfl) ?_
            refine lk (dt := some 91) R8_13_N rfl rfl rfl (opv_move rfl rfl rfl) ?_
            refine lk_skip (dt := some 92) R8_13_N rfl rfl ⟨_, rfl, .inl ⟨_, rfl, gq rfl rfl⟩⟩ ?_
            refine lk_skip (dt := some 93) R8_13_N rfl rfl ⟨_, rfl, .inl ⟨_, rfl, gq rfl rfl⟩⟩ ?_
            refine lk (dt := some 94) R8_13_N rfl rfl rfl (ov_pickT rfl rfl rfl rfl rfl rfl rfl) ?_
            refine aops_nil ?_
            exact S8_2_ok Q E  _ s_5 r82.1 r82.2.2 r99.2.1 r99.2.2 true aw100 h5 h7 h9 h13 h14 rfl H
          · replace H := cnd_f H hb108
            refine lk (dt := some 88) R8_13_N rfl rfl ⟨_, rfl, .inl ⟨_, rfl, gq hb108 rfl⟩⟩ (opv_move rfl rfl h1) ?_
            refine lk (dt := some 89) R8_13_N rfl rfl ⟨_, rfl, .inl ⟨_, rfl, gq hb108 rfl⟩⟩ (opv_eqI rfl rfl rfl rfl rfl) ?_
            refine lk (dt := some 90) R8_13_N rfl rfl rfl (ov_pickF rfl rfl rfl rfl rfl hb108 rfl) ?_
            refine lk (dt := some 91) R8_13_N rfl rfl rfl (opv_move rfl rfl rfl) ?_
            rcases Bool.eq_false_or_eq_true (decide (c_1 = 95)) with hb109 | hb109
            · replace H := cnd_t H hb109
              refine lk_skip (dt := some 92) R8_13_N rfl rfl ⟨_, rfl, .inl ⟨_, rfl, gq hb109 rfl⟩⟩ ?_
              refine lk_skip (dt := some 93) R8_13_N rfl rfl ⟨_, rfl, .inl ⟨_, rfl, gq hb109 rfl⟩⟩ ?_
              refine lk (dt := some 94) R8_13_N rfl rfl rfl (ov_pickT rfl rfl rfl rfl rfl hb109 rfl) ?_
              refine aops_nil ?_
              exact S8_2_ok Q E  _ s_5 r82.1 r82.2.2 r99.2.1 r99.2.2 true aw100 h5 h7 h9 h13 h14 rfl H
            · replace H := cnd_f H hb109
              refine lk (dt := some 92) R8_13_N rfl rfl ⟨_, rfl, .inl ⟨_, rfl, gq hb109 rfl⟩⟩ (opv_move rfl rfl h1) ?_
              refine lk (dt := some 93) R8_13_N rfl rfl ⟨_, rfl, .inl ⟨_, rfl, gq hb109 rfl⟩⟩ (opv_eqI rfl rfl rfl rfl rfl) ?_
              refine lk (dt := some 94) R8_13_N rfl rfl rfl (ov_pickF rfl rfl rfl rfl rfl hb109 rfl) ?_
              refine aops_nil ?_
              exact S8_2_ok Q E  _ s_5 r82.1 r82.2.2 r99.2.1 r99.2.2 (decide (c_1 = 39)) aw100 h5 h7 h9 h13 h14 rfl H
        · replace H := cnd_f H hb107
          refine lk_skip (dt := some 83) R8_13_N rfl rfl ⟨_, rfl, .inl ⟨_, rfl, gq hb107 rfl⟩⟩ ?_
          refine lk_skip (dt := some 84) R8_13_N rfl rfl ⟨_, rfl, .inl ⟨_, rfl, gq hb107 rfl⟩⟩ ?_
          refine lk (dt := some 85) R8_13_N rfl rfl ⟨_, rfl, .inl ⟨_, rfl, gq rfl rfl⟩⟩ (ov_pickF rfl rfl rfl rfl rfl hb107 rfl) ?_
          refine lk (dt := some 86) R8_13_N rfl rfl rfl (ov_pickF rfl rfl rfl rfl rfl rfl rfl) ?_
          refine lk (dt := some 87) R8_13_N rfl rfl rfl (opv_move rfl rfl rfl) ?_
          refine lk (dt := some 88) R8_13_N rfl rfl ⟨_, rfl, .inl ⟨_, rfl, gq rfl rfl⟩⟩ (opv_move rfl rfl h1) ?_
          refine lk (dt := some 89) R8_13_N rfl rfl ⟨_, rfl, .inl ⟨_, rfl, gq rfl rfl⟩⟩ (opv_eqI rfl rfl rfl rfl rfl) ?_
          refine lk (dt := some 90) R8_13_N rfl rfl rfl (ov_pickF rfl rfl rfl rfl rfl rfl rfl) ?_
          refine lk (dt := some 91) R8_13_N rfl rfl rfl (opv_move rfl rfl rfl) ?_
          rcases Bool.eq_false_or_eq_true (decide (c_1 = 95)) with hb110 | hb110
          · replace H := cnd_t H hb110
            refine lk_skip (dt := some 92) R8_13_N rfl rfl ⟨_, rfl, .inl ⟨_, rfl, gq hb110 rfl⟩⟩ ?_
            refine lk_skip (dt := some 93) R8_13_N rfl rfl ⟨_, rfl, .inl ⟨_, rfl, gq hb110 rfl⟩⟩ ?_
            refine lk (dt := some 94) R8_13_N rfl rfl rfl (ov_pickT rfl rfl rfl rfl rfl hb110 rfl) ?_
            refine aops_nil ?_
            exact S8_2_ok Q E  _ s_5 r82.1 r82.2.2 r99.2.1 r99.2.2 true aw100 h5 h7 h9 h13 h14 rfl H
          · replace H := cnd_f H hb110
            refine lk (dt := some 92) R8_13_N rfl rfl ⟨_, rfl, .inl ⟨_, rfl, gq hb110 rfl⟩⟩ (opv_move rfl rfl h1) ?_
            refine lk (dt := some 93) R8_13_N rfl rfl ⟨_, rfl, .inl ⟨_, rfl, gq hb110 rfl⟩⟩ (opv_eqI rfl rfl rfl rfl rfl) ?_
            refine lk (dt := some 94) R8_13_N rfl rfl rfl (ov_pickF rfl rfl rfl rfl rfl hb110 rfl) ?_
            refine aops_nil ?_
            exact S8_2_ok Q E  _ s_5 r82.1 r82.2.2 r99.2.1 r99.2.2 (decide (c_1 = 39)) aw100 h5 h7 h9 h13 h14 rfl H
theorem S8_1_ok (Q : Bool → AW → Prop) (E : List PanicEntry → AW → Prop)  : ∀ (n : Nat) (ρ : Env) (p_0 : Value) (c_1 : Int) (s_5 : ByteArray) (i_6 : Int) (aw : AW) (h0 : ρ 0 = p_0) (h1 : ρ 1 = .int .u8 c_1) (h5 : ρ 5 = .string s_5) (h6 : ρ 6 = .int .i64 i_6), S8_1 Q E  n p_0 c_1 s_5 i_6 aw →
    AGo prog 125 [.code C8_17, .inLoop C8_17, .inBlock 0, .code C8_27] ρ [] aw (RR prog f8 125 sh8 Q E)
  | 0, _, _, _, _, _, _, _, _, _, _ => fun H => H.elim
  | n + 1, ρ, p_0, c_1, s_5, i_6, aw, h0, h1, h5, h6 => fun H => S8_1s_ok Q E  _ (S8_1_ok Q E  n) ρ p_0 c_1 s_5 i_6 aw h0 h1 h5 h6 H
set_option maxHeartbeats 4000000 in
set_option maxRecDepth 100000 in
theorem S8_0_ok (Q : Bool → AW → Prop) (E : List PanicEntry → AW → Prop)  (ρ : Env) (p_0 : Value) (c_1 : Int) (aw : AW) (h0 : ρ 0 = p_0) (h1 : ρ 1 = .int .u8 c_1) (H : S8_0 Q E  p_0 c_1 aw) :
    AGo prog 125 [.code C8_0] ρ [] aw (RR prog f8 125 sh8 Q E) := by
  unfold S8_0 at H
  refine ago_seqE E8_0 ?_
  refine ago_regE E8_1 (l := [0]) rfl ?_
  refine lk (dt := some 4) R8_0_N rfl rfl rfl (opv_assign rfl rfl rfl) ?_
  refine aops_nil ?_
  refine ago_seqE E8_2 ?_
  refine ago_seqE E8_3 ?_
  refine ago_regE E8_4 (l := [0, 1, 2, 3, 4, 5, 6, 7, 8, 9, 10, 11]) rfl ?_
  refine lk_call (dt := some 15) R8_1_N rfl rfl rfl (opc_of rfl rfl is9 rfl) H (fun _ _ h => ⟨rfl, h⟩) fun r111 aw112 H => ?_
  refine lk (dt := some 16) R8_1_N rfl rfl rfl (opv_not rfl rfl rfl) ?_
  refine lk (dt := some 17) R8_1_N rfl rfl rfl (opv_move rfl rfl rfl) ?_
  rcases Bool.eq_false_or_eq_true (!r111) with hb113 | hb113
  · replace H := cnd_t H hb113
    refine lk_skip (dt := some 18) R8_1_N rfl rfl ⟨_, rfl, .inl ⟨_, rfl, gq hb113 rfl⟩⟩ ?_
    refine lk_skip (dt := some 19) R8_1_N rfl rfl ⟨_, rfl, .inl ⟨_, rfl, gq hb113 rfl⟩⟩ ?_
    refine lk_skip (dt := some 20) R8_1_N rfl rfl ⟨_, rfl, .inl ⟨_, rfl, gq hb113 rfl⟩⟩ ?_
    refine lk (dt := some 21) R8_1_N rfl rfl rfl (ov_pickT rfl rfl rfl rfl rfl hb113 rfl) ?_
    refine lk (dt := some 22) R8_1_N rfl rfl rfl (opv_move rfl rfl rfl) ?_
    refine lk_skip (dt := some 23) R8_1_N rfl rfl ⟨_, rfl, .inl ⟨_, rfl, gq rfl rfl⟩⟩ ?_
    refine lk_skip (dt := some 24) R8_1_N rfl rfl ⟨_, rfl, .inl ⟨_, rfl, gq rfl rfl⟩⟩ ?_
    refine lk_skip (dt := some 25) R8_1_N rfl rfl ⟨_, rfl, .inl ⟨_, rfl, gq rfl rfl⟩⟩ ?_
    refine lk (dt := some 26) R8_1_N rfl rfl rfl (ov_pickT rfl rfl rfl rfl rfl rfl rfl) ?_
    refine aops_nil ?_
    refine ago_condE  E8_5 rfl rfl (fun h => ?_) (fun h => tf h)
    refine ago_seqE E8_6 ?_
    refine ago_regE E8_7 (l := [0, 1]) rfl ?_
    refine lk_call (dt := some 27) R8_2_N rfl rfl rfl (opc_of rfl rfl is9 rfl) H (fun _ _ h => ⟨rfl, h⟩) fun r115 aw116 H => ?_
    refine lk (dt := some 4) R8_2_N rfl rfl rfl (opv_assign rfl rfl rfl) ?_
    refine aops_nil ?_
    exact ago_retE E8_8 (r := r115) (ares_1 rfl (oneT rfl)) rfl H
  · replace H := cnd_f H hb113
    refine lk (dt := some 18) R8_1_N rfl rfl ⟨_, rfl, .inl ⟨_, rfl, gq hb113 rfl⟩⟩ (opv_move rfl rfl h0) ?_
    obtain ⟨q118, l119, c120, n117, hv121, hn122, H⟩ := H
    refine lk (dt := some 19) R8_1_N rfl rfl ⟨_, rfl, .inl ⟨_, rfl, gq hb113 rfl⟩⟩ (ov_len rfl rfl rfl underlying30 rfl hv121 hn122) ?_
    refine lk (dt := some 20) R8_1_N rfl rfl ⟨_, rfl, .inl ⟨_, rfl, gq hb113 rfl⟩⟩ (opv_eqI rfl rfl rfl rfl rfl) ?_
    refine lk (dt := some 21) R8_1_N rfl rfl rfl (ov_pickF rfl rfl rfl rfl rfl hb113 rfl) ?_
    refine lk (dt := some 22) R8_1_N rfl rfl rfl (opv_move rfl rfl rfl) ?_
    rcases Bool.eq_false_or_eq_true (decide (n117 = 0)) with hb123 | hb123
    · replace H := cnd_t H hb123
      refine lk_skip (dt := some 23) R8_1_N rfl rfl ⟨_, rfl, .inl ⟨_, rfl, gq hb123 rfl⟩⟩ ?_
      refine lk_skip (dt := some 24) R8_1_N rfl rfl ⟨_, rfl, .inl ⟨_, rfl, gq hb123 rfl⟩⟩ ?_
      refine lk_skip (dt := some 25) R8_1_N rfl rfl ⟨_, rfl, .inl ⟨_, rfl, gq hb123 rfl⟩⟩ ?_
      refine lk (dt := some 26) R8_1_N rfl rfl rfl (ov_pickT rfl rfl rfl rfl rfl hb123 rfl) ?_
      refine aops_nil ?_
      refine ago_condE  E8_5 rfl rfl (fun h => ?_) (fun h => tf h)
      refine ago_seqE E8_6 ?_
      refine ago_regE E8_7 (l := [0, 1]) rfl ?_
      refine lk_call (dt := some 27) R8_2_N rfl rfl rfl (opc_of rfl rfl is9 rfl) H (fun _ _ h => ⟨rfl, h⟩) fun r125 aw126 H => ?_
      refine lk (dt := some 4) R8_2_N rfl rfl rfl (opv_assign rfl rfl rfl) ?_
      refine aops_nil ?_
      exact ago_retE E8_8 (r := r125) (ares_1 rfl (oneT rfl)) rfl H
    · replace H := cnd_f H hb123
      refine lk (dt := some 23) R8_1_N rfl rfl ⟨_, rfl, .inl ⟨_, rfl, gq hb123 rfl⟩⟩ (opv_move rfl rfl h0) ?_
      obtain ⟨q128, l129, c130, n127, hv131, hn132, H⟩ := H
      refine lk (dt := some 24) R8_1_N rfl rfl ⟨_, rfl, .inl ⟨_, rfl, gq hb123 rfl⟩⟩ (ov_len rfl rfl rfl underlying30 rfl hv131 hn132) ?_
      refine lk (dt := some 25) R8_1_N rfl rfl ⟨_, rfl, .inl ⟨_, rfl, gq hb123 rfl⟩⟩ (opv_gt rfl rfl rfl rfl rfl) ?_
      refine lk (dt := some 26) R8_1_N rfl rfl rfl (ov_pickF rfl rfl rfl rfl rfl hb123 rfl) ?_
      refine aops_nil ?_
      refine ago_condE  E8_5 rfl rfl (fun hb133 => ?_) (fun hb133 => ?_)
      · replace H := cnd_t H hb133
        refine ago_seqE E8_6 ?_
        refine ago_regE E8_7 (l := [0, 1]) rfl ?_
        refine lk_call (dt := some 27) R8_2_N rfl rfl rfl (opc_of rfl rfl is9 rfl) H (fun _ _ h => ⟨rfl, h⟩) fun r134 aw135 H => ?_
        refine lk (dt := some 4) R8_2_N rfl rfl rfl (opv_assign rfl rfl rfl) ?_
        refine aops_nil ?_
        exact ago_retE E8_8 (r := r134) (ares_1 rfl (oneT rfl)) rfl H
      · replace H := cnd_f H hb133
        refine ago_skipE E8_9 ?_
        refine ago_seqE E8_10 ?_
        refine ago_cut (fun ρ => ρ 0 = p_0 ∧ ρ 1 = .int .u8 c_1 ∧ True) ⟨h0, h1, trivial⟩ (fun ρ ⟨h0, h1, _⟩ => ?_)
        refine ago_regE E8_11 (l := [0]) rfl ?_
        refine lk (dt := some 5) R8_3_N rfl rfl rfl (opv_assign rfl rfl rfl) ?_
        refine aops_nil ?_
        refine ago_seqE E8_12 ?_
        refine ago_seqE E8_13 ?_
        refine ago_regE E8_14 (l := [0]) rfl ?_
        refine lk (dt := some 6) R8_4_N rfl rfl rfl (opv_assign rfl rfl rfl) ?_
        refine aops_nil ?_
        refine ago_blockE E8_15 ?_
        refine ago_loopE E8_16 ?_
        obtain ⟨n, H⟩ := H
        exact S8_1_ok Q E  n _ p_0 c_1 (⟨#[]⟩ : ByteArray) 0 aw112 h0 h1 rfl rfl H
theorem F8_ok {Q : Bool → AW → Prop} {E : List PanicEntry → AW → Prop} (p_0 : Value) (c_1 : Int) (aw : AW) (H : S8_0 Q E p_0 c_1 aw) : CallP prog 8 [p_0, .int .u8 c_1] aw sh8 Q E :=
  callP_of func8 C8_is rfl (Nat.le_of_ble_eq_true rfl) (S8_0_ok Q E _ p_0 c_1 aw rfl rfl H)
end Go.Proofs.Tryd
