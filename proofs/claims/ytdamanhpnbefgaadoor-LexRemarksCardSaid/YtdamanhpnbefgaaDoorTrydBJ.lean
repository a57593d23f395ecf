/- Printed by a program of the prover: what the Go functions of this seat do, in steps. -/
import Derived.Test.YtdamanhpnbefgaaDoorTrydB
set_option linter.unusedVariables false
namespace Go.Proofs.Tryd
open Go Go.Am Go.RowKit
/-! ### battledore/battledoreref03.Same: function 12 -/
noncomputable def C12_0 : Code := bodyOf f12
theorem C12_is : f12.body = some C12_0 := by kernel_rfl
noncomputable def C12_1 : Code := cl C12_0
noncomputable def R12_0 : Array Oper := regOps C12_1
noncomputable def C12_2 : Code := cr C12_0
noncomputable def C12_3 : Code := cl C12_2
noncomputable def C12_4 : Code := cl C12_3
noncomputable def R12_1 : Array Oper := regOps C12_4
noncomputable def C12_5 : Code := cr C12_3
noncomputable def C12_6 : Code := cl C12_5
noncomputable def C12_7 : Code := cl C12_6
noncomputable def R12_2 : Array Oper := regOps C12_7
noncomputable def C12_8 : Code := cr C12_6
noncomputable def C12_9 : Code := cr C12_5
noncomputable def C12_10 : Code := cr C12_2
noncomputable def C12_11 : Code := cl C12_10
noncomputable def C12_12 : Code := cl C12_11
noncomputable def R12_3 : Array Oper := regOps C12_12
noncomputable def C12_13 : Code := cr C12_11
noncomputable def C12_14 : Code := cl C12_13
noncomputable def C12_15 : Code := cl C12_14
noncomputable def C12_16 : Code := cl C12_15
noncomputable def C12_17 : Code := cl C12_16
noncomputable def R12_4 : Array Oper := regOps C12_17
noncomputable def C12_18 : Code := cr C12_16
noncomputable def C12_19 : Code := cl C12_18
noncomputable def C12_20 : Code := cr C12_18
noncomputable def C12_21 : Code := cr C12_15
noncomputable def C12_22 : Code := cl C12_21
noncomputable def C12_23 : Code := cl C12_22
noncomputable def C12_24 : Code := cl C12_23
noncomputable def R12_6 : Array Oper := regOps C12_24
noncomputable def C12_25 : Code := cr C12_23
noncomputable def C12_26 : Code := cl C12_25
noncomputable def C12_27 : Code := cl C12_26
noncomputable def R12_7 : Array Oper := regOps C12_27
noncomputable def C12_28 : Code := cr C12_26
noncomputable def C12_29 : Code := cr C12_25
noncomputable def C12_30 : Code := cr C12_21
noncomputable def R12_5 : Array Oper := regOps C12_30
noncomputable def C12_31 : Code := cr C12_10
noncomputable def C12_32 : Code := cl C12_31
noncomputable def R12_8 : Array Oper := regOps C12_32
noncomputable def C12_33 : Code := cr C12_31
theorem R12_0_N : dstsOk 26 R12_0 = true := by decide +kernel
theorem E12_1 : C12_1 = .region 0 R12_0 false := rfl
theorem R12_1_N : dstsOk 26 R12_1 = true := by decide +kernel
theorem E12_4 : C12_4 = .region 1 R12_1 false := rfl
theorem R12_2_N : dstsOk 26 R12_2 = true := by decide +kernel
theorem E12_7 : C12_7 = .region 2 R12_2 false := rfl
theorem E12_8 : C12_8 = .ret := rfl
theorem E12_6 : C12_6 = .seq C12_7 C12_8 := rfl
theorem E12_9 : C12_9 = .skip := rfl
theorem E12_5 : C12_5 = .cond (.tmp 10) C12_6 C12_9 := rfl
theorem E12_3 : C12_3 = .seq C12_4 C12_5 := rfl
theorem R12_3_N : dstsOk 26 R12_3 = true := by decide +kernel
theorem E12_12 : C12_12 = .region 3 R12_3 false := rfl
theorem R12_4_N : dstsOk 26 R12_4 = true := by decide +kernel
theorem E12_17 : C12_17 = .region 4 R12_4 false := rfl
theorem E12_19 : C12_19 = .skip := rfl
theorem E12_20 : C12_20 = .exit 0 := rfl
theorem E12_18 : C12_18 = .cond (.tmp 14) C12_19 C12_20 := rfl
theorem E12_16 : C12_16 = .seq C12_17 C12_18 := rfl
theorem R12_6_N : dstsOk 26 R12_6 = true := by decide +kernel
theorem R12_6_O : drawOk R12_6 [0, 1, 2, 3, 4, 5, 6, 7, 8] [] = true := by decide +kernel
theorem E12_24 : C12_24 = .region 6 R12_6 true := rfl
theorem R12_7_N : dstsOk 26 R12_7 = true := by decide +kernel
theorem E12_27 : C12_27 = .region 7 R12_7 false := rfl
theorem E12_28 : C12_28 = .ret := rfl
theorem E12_26 : C12_26 = .seq C12_27 C12_28 := rfl
theorem E12_29 : C12_29 = .skip := rfl
theorem E12_25 : C12_25 = .cond (.tmp 25) C12_26 C12_29 := rfl
theorem E12_23 : C12_23 = .seq C12_24 C12_25 := rfl
theorem E12_22 : C12_22 = .block 1 C12_23 := rfl
theorem R12_5_N : dstsOk 26 R12_5 = true := by decide +kernel
theorem E12_30 : C12_30 = .region 5 R12_5 false := rfl
theorem E12_21 : C12_21 = .seq C12_22 C12_30 := rfl
theorem E12_15 : C12_15 = .seq C12_16 C12_21 := rfl
theorem E12_14 : C12_14 = .loop C12_15 := rfl
theorem E12_13 : C12_13 = .block 0 C12_14 := rfl
theorem E12_11 : C12_11 = .seq C12_12 C12_13 := rfl
theorem R12_8_N : dstsOk 26 R12_8 = true := by decide +kernel
theorem E12_32 : C12_32 = .region 8 R12_8 false := rfl
theorem E12_33 : C12_33 = .ret := rfl
theorem E12_31 : C12_31 = .seq C12_32 C12_33 := rfl
theorem E12_10 : C12_10 = .seq C12_11 C12_31 := rfl
theorem E12_2 : C12_2 = .seq C12_3 C12_10 := rfl
theorem E12_0 : C12_0 = .seq C12_1 C12_2 := rfl
def S12_1s (Q : Bool → AW → Prop) (E : List PanicEntry → AW → Prop)  (nx1 : Value → Value → Int → AW → Prop) (a_0 : Value) (b_1 : Value) (i_5 : Int) (aw : AW) : Prop :=
  slen a_0 fun n1 =>
  cnd (decide (i_5 < n1)) (ixS a_0 i_5 3 fun p8 =>
  ∃ b17 i18 c20 c21 c22, p8 = .pointer (some ⟨b17, i18, none⟩) ∧ aw.get b17 i18 = some (.int .u8 c20) ∧ aw.get b17 (i18 + 1) = some (.string c21) ∧ aw.get b17 (i18 + 2) = some (.int .i64 c22) ∧ ixS b_1 i_5 3 fun p26 =>
  ∃ b35 i36 c38 c39 c40, p26 = .pointer (some ⟨b35, i36, none⟩) ∧ aw.get b35 i36 = some (.int .u8 c38) ∧ aw.get b35 (i36 + 1) = some (.string c39) ∧ aw.get b35 (i36 + 2) = some (.int .i64 c40) ∧ cnd (!(decide (c20 = c38) && (decide (c21 = c39) && (decide (c22 = c40) && (true))))) (Q false aw) (nx1 a_0 b_1 (IntKind.i64.wrap (i_5 + 1)) aw)) (Q true aw)
def S12_1 (Q : Bool → AW → Prop) (E : List PanicEntry → AW → Prop)  : Nat → Value → Value → Int → AW → Prop
  | 0 => fun _ _ _ _ => False
  | n + 1 => S12_1s Q E  (S12_1 Q E  n)
def S12_0 (Q : Bool → AW → Prop) (E : List PanicEntry → AW → Prop)  (a_0 : Value) (b_1 : Value) (aw : AW) : Prop :=
  slen a_0 fun n45 =>
  slen b_1 fun n51 =>
  cnd (!decide (n45 = n51)) (Q false aw) (∃ n, S12_1 Q E  n a_0 b_1 0 aw)
set_option maxHeartbeats 4000000 in
set_option maxRecDepth 100000 in
theorem S12_1s_ok (Q : Bool → AW → Prop) (E : List PanicEntry → AW → Prop)  (nx1 : Value → Value → Int → AW → Prop) (L1 : ∀ (ρ : Env) (a_0 : Value) (b_1 : Value) (i_5 : Int) (aw : AW) (h0 : ρ 0 = a_0) (h1 : ρ 1 = b_1) (h5 : ρ 5 = .int .i64 i_5), nx1 a_0 b_1 i_5 aw → AGo prog 26 [.code C12_15, .inLoop C12_15, .inBlock 0, .code C12_31] ρ [] aw (RR prog f12 26 sh12 Q E)) (ρ : Env) (a_0 : Value) (b_1 : Value) (i_5 : Int) (aw : AW) (h0 : ρ 0 = a_0) (h1 : ρ 1 = b_1) (h5 : ρ 5 = .int .i64 i_5) (H : S12_1s Q E  nx1 a_0 b_1 i_5 aw) :
    AGo prog 26 [.code C12_15, .inLoop C12_15, .inBlock 0, .code C12_31] ρ [] aw (RR prog f12 26 sh12 Q E) := by
  unfold S12_1s at H
  refine ago_seqE E12_15 ?_
  refine ago_seqE E12_16 ?_
  refine ago_regE E12_17 (l := [0, 1, 2, 3]) rfl ?_
  refine lk (dt := some 11) R12_4_N rfl rfl rfl (opv_move rfl rfl h5) ?_
  refine lk (dt := some 12) R12_4_N rfl rfl rfl (opv_move rfl rfl h0) ?_
  obtain ⟨q2, l3, c4, n1, hv5, hn6, H⟩ := H
  refine lk (dt := some 13) R12_4_N rfl rfl rfl (ov_len rfl rfl rfl underlying23 rfl hv5 hn6) ?_
  refine lk (dt := some 14) R12_4_N rfl rfl rfl (opv_lt rfl rfl rfl rfl rfl) ?_
  refine aops_nil ?_
  refine ago_condE  E12_18 rfl rfl (fun hb7 => ?_) (fun hb7 => ?_)
  · replace H := cnd_t H hb7
    refine ago_skipE E12_19 ?_
    refine ago_seqE E12_21 ?_
    refine ago_blockE E12_22 ?_
    refine ago_seqE E12_23 ?_
    obtain ⟨b9, i10, l11, c12, p8, hp13, h014, hj15, hv16, H⟩ := H
    obtain ⟨b17, i18, c20, c21, c22, hp19, hg23, hg24, hg25, H⟩ := H
    obtain ⟨b27, i28, l29, c30, p26, hp31, h032, hj33, hv34, H⟩ := H
    obtain ⟨b35, i36, c38, c39, c40, hp37, hg41, hg42, hg43, H⟩ := H
    refine ago_drawE (hs := [0, 1, 2, 3, 4, 5, 6, 7, 8]) (fl := []) (hv := [(0, a_0), (1, Value.int .i64 i_5), (2, p8), (3, Value.agg #[.int .u8 c20, .string c21, .int .i64 c22]), (4, b_1), (5, Value.int .i64 i_5), (6, p26), (7, Value.agg #[.int .u8 c38, .string c39, .int .i64 c40]), (8, Value.bool (!(decide (c20 = c38) && (decide (c21 = c39) && (decide (c22 = c40) && (true))))))]) E12_24 mixed R12_6_N R12_6_O (by decide) rfl (pv_cons rfl (pv_cons rfl (pv_cons rfl (pv_cons rfl (pv_cons rfl (pv_cons rfl (pv_cons rfl (pv_cons rfl (pv_cons rfl (pv_nil _))))))))))
      ⟨(hd_v rfl fun ρ hρ => ⟨rfl, opv_move rfl rfl ((hρ 0 (lmem rfl)).trans h0)⟩),
      (hd_v rfl fun ρ hρ => ⟨rfl, opv_move rfl rfl ((hρ 5 (lmem rfl)).trans h5)⟩),
      (hd_v rfl fun ρ hρ => ⟨rfl, ov_ixS rfl rfl rfl underlying23 sz33 ((hρ 17 (lmem rfl)).trans rfl) ((hρ 18 (lmem rfl)).trans rfl) hp13 h014 hj15 hv16⟩),
      (hd_v rfl fun ρ hρ => ⟨rfl, ov_ldN rfl underlying33 rfl sz33 rfl ((hρ 19 (lmem rfl)).trans rfl) hp19 (getN_cons hg23 (getN_cons hg24 (getN_cons hg25 getN_nil)))⟩),
      (hd_v rfl fun ρ hρ => ⟨rfl, opv_move rfl rfl ((hρ 1 (lmem rfl)).trans h1)⟩),
      (hd_v rfl fun ρ hρ => ⟨rfl, opv_move rfl rfl ((hρ 5 (lmem rfl)).trans h5)⟩),
      (hd_v rfl fun ρ hρ => ⟨rfl, ov_ixS rfl rfl rfl underlying23 sz33 ((hρ 21 (lmem rfl)).trans rfl) ((hρ 22 (lmem rfl)).trans rfl) hp31 h032 hj33 hv34⟩),
      (hd_v rfl fun ρ hρ => ⟨rfl, ov_ldN rfl underlying33 rfl sz33 rfl ((hρ 23 (lmem rfl)).trans rfl) hp37 (getN_cons hg41 (getN_cons hg42 (getN_cons hg43 getN_nil)))⟩),
      (hd_v rfl fun ρ hρ => ⟨rfl, opv_binP rfl rfl rfl ((hρ 20 (lmem rfl)).trans rfl) ((hρ 24 (lmem rfl)).trans rfl) rfl rfl (fun w => nest33 _ _ _ _ _ _ _ _ w) rfl⟩),
      trivial⟩ ?_
    refine tailAll_cons (hv' := [(0, a_0), (1, Value.int .i64 i_5), (2, p8), (3, Value.agg #[.int .u8 c20, .string c21, .int .i64 c22]), (4, b_1), (5, Value.int .i64 i_5), (6, p26), (7, Value.agg #[.int .u8 c38, .string c39, .int .i64 c40]), (8, Value.bool (!(decide (c20 = c38) && (decide (c21 = c39) && (decide (c22 = c40) && (true))))))]) rfl (pv_cons rfl (pv_cons rfl (pv_cons rfl (pv_cons rfl (pv_cons rfl (pv_cons rfl (pv_cons rfl (pv_cons rfl (pv_cons rfl (pv_nil _)))))))))) ?_ ?_
    · skip
      refine tail_0 (by decide +kernel) ?_
      refine ago_condE  E12_25 rfl rfl (fun hb44 => ?_) (fun hb44 => ?_)
      · replace H := cnd_t H hb44
        refine ago_seqE E12_26 ?_
        refine ago_regE E12_27 (l := [0]) rfl ?_
        refine lk (dt := some 4) R12_7_N rfl rfl rfl (opv_assign rfl rfl rfl) ?_
        refine aops_nil ?_
        exact ago_retE E12_28 (r := false) (ares_1 rfl (oneT rfl)) rfl H
      · replace H := cnd_f H hb44
        refine ago_skipE E12_29 ?_
        refine ago_inBlock ?_
        refine ago_cut (fun ρ => ρ 0 = a_0 ∧ ρ 1 = b_1 ∧ ρ 5 = .int .i64 i_5 ∧ True) ⟨h0, h1, h5, trivial⟩ (fun ρ ⟨h0, h1, h5, _⟩ => ?_)
        refine ago_regE E12_30 (l := [0, 1, 2]) rfl ?_
        refine lk (dt := some 15) R12_5_N rfl rfl rfl (opv_move rfl rfl h5) ?_
        refine lk (dt := some 16) R12_5_N rfl rfl rfl (opv_add rfl rfl rfl rfl rfl) ?_
        refine lk (dt := some 5) R12_5_N rfl rfl rfl (opv_assign rfl rfl rfl) ?_
        refine aops_nil ?_
        refine ago_inLoop ?_
        exact L1 _ a_0 b_1 (IntKind.i64.wrap (i_5 + 1)) aw h0 h1 rfl H
    exact trivial
  · replace H := cnd_f H hb7
    refine ago_exitE E12_20 rfl ?_
    refine ago_seqE E12_31 ?_
    refine ago_regE E12_32 (l := [0]) rfl ?_
    refine lk (dt := some 4) R12_8_N rfl rfl rfl (opv_assign rfl rfl rfl) ?_
    refine aops_nil ?_
    exact ago_retE E12_33 (r := true) (ares_1 rfl (oneT rfl)) rfl H
theorem S12_1_ok (Q : Bool → AW → Prop) (E : List PanicEntry → AW → Prop)  : ∀ (n : Nat) (ρ : Env) (a_0 : Value) (b_1 : Value) (i_5 : Int) (aw : AW) (h0 : ρ 0 = a_0) (h1 : ρ 1 = b_1) (h5 : ρ 5 = .int .i64 i_5), S12_1 Q E  n a_0 b_1 i_5 aw →
    AGo prog 26 [.code C12_15, .inLoop C12_15, .inBlock 0, .code C12_31] ρ [] aw (RR prog f12 26 sh12 Q E)
  | 0, _, _, _, _, _, _, _, _ => fun H => H.elim
  | n + 1, ρ, a_0, b_1, i_5, aw, h0, h1, h5 => fun H => S12_1s_ok Q E  _ (S12_1_ok Q E  n) ρ a_0 b_1 i_5 aw h0 h1 h5 H
set_option maxHeartbeats 4000000 in
set_option maxRecDepth 100000 in
theorem S12_0_ok (Q : Bool → AW → Prop) (E : List PanicEntry → AW → Prop)  (ρ : Env) (a_0 : Value) (b_1 : Value) (aw : AW) (h0 : ρ 0 = a_0) (h1 : ρ 1 = b_1) (H : S12_0 Q E  a_0 b_1 aw) :
    AGo prog 26 [.code C12_0] ρ [] aw (RR prog f12 26 sh12 Q E) := by
  unfold S12_0 at H
  refine ago_seqE E12_0 ?_
  refine ago_regE E12_1 (l := [0]) rfl ?_
  refine lk (dt := some 4) R12_0_N rfl rfl rfl (opv_assign rfl rfl rfl) ?_
  refine aops_nil ?_
  refine ago_seqE E12_2 ?_
  refine ago_seqE E12_3 ?_
  refine ago_regE E12_4 (l := [0, 1, 2, 3, 4]) rfl ?_
  refine lk (dt := some 6) R12_1_N rfl rfl rfl (opv_move rfl rfl h0) ?_
  obtain ⟨q46, l47, c48, n45, hv49, hn50, H⟩ := H
  refine lk (dt := some 7) R12_1_N rfl rfl rfl (ov_len rfl rfl rfl underlying23 rfl hv49 hn50) ?_
  refine lk (dt := some 8) R12_1_N rfl rfl rfl (opv_move rfl rfl h1) ?_
  obtain ⟨q52, l53, c54, n51, hv55, hn56, H⟩ := H
  refine lk (dt := some 9) R12_1_N rfl rfl rfl (ov_len rfl rfl rfl underlying23 rfl hv55 hn56) ?_
  refine lk (dt := some 10) R12_1_N rfl rfl rfl (opv_neI rfl rfl rfl rfl rfl) ?_
  refine aops_nil ?_
  refine ago_condE  E12_5 rfl rfl (fun hb57 => ?_) (fun hb57 => ?_)
  · replace H := cnd_t H hb57
    refine ago_seqE E12_6 ?_
    refine ago_regE E12_7 (l := [0]) rfl ?_
    refine lk (dt := some 4) R12_2_N rfl rfl rfl (opv_assign rfl rfl rfl) ?_
    refine aops_nil ?_
    exact ago_retE E12_8 (r := false) (ares_1 rfl (oneT rfl)) rfl H
  · replace H := cnd_f H hb57
    refine ago_skipE E12_9 ?_
    refine ago_seqE E12_10 ?_
    refine ago_seqE E12_11 ?_
    refine ago_regE E12_12 (l := [0]) rfl ?_
    refine lk (dt := some 5) R12_3_N rfl rfl rfl (opv_assign rfl rfl rfl) ?_
    refine aops_nil ?_
    refine ago_blockE E12_13 ?_
    refine ago_loopE E12_14 ?_
    obtain ⟨n, H⟩ := H
    exact S12_1_ok Q E  n _ a_0 b_1 0 aw h0 h1 rfl H
theorem F12_ok {Q : Bool → AW → Prop} {E : List PanicEntry → AW → Prop} (a_0 : Value) (b_1 : Value) (aw : AW) (H : S12_0 Q E a_0 b_1 aw) : CallP prog 12 [a_0, b_1] aw sh12 Q E :=
  callP_of func12 C12_is rfl (Nat.le_of_ble_eq_true rfl) (S12_0_ok Q E _ a_0 b_1 aw rfl rfl H)
/-! ### battledore/battledorelaw03.moved: function 11 -/
noncomputable def C11_0 : Code := bodyOf f11
theorem C11_is : f11.body = some C11_0 := by kernel_rfl
noncomputable def C11_1 : Code := cl C11_0
noncomputable def R11_0 : Array Oper := regOps C11_1
noncomputable def C11_2 : Code := cr C11_0
noncomputable def C11_3 : Code := cl C11_2
noncomputable def R11_1 : Array Oper := regOps C11_3
noncomputable def C11_4 : Code := cr C11_2
noncomputable def C11_5 : Code := cl C11_4
noncomputable def C11_6 : Code := cl C11_5
noncomputable def R11_2 : Array Oper := regOps C11_6
noncomputable def C11_7 : Code := cr C11_5
noncomputable def C11_8 : Code := cl C11_7
noncomputable def C11_9 : Code := cl C11_8
noncomputable def C11_10 : Code := cl C11_9
noncomputable def C11_11 : Code := cl C11_10
noncomputable def R11_3 : Array Oper := regOps C11_11
noncomputable def C11_12 : Code := cr C11_10
noncomputable def C11_13 : Code := cl C11_12
noncomputable def C11_14 : Code := cr C11_12
noncomputable def C11_15 : Code := cr C11_9
noncomputable def C11_16 : Code := cl C11_15
noncomputable def C11_17 : Code := cl C11_16
noncomputable def R11_5 : Array Oper := regOps C11_17
noncomputable def C11_18 : Code := cr C11_15
noncomputable def R11_4 : Array Oper := regOps C11_18
noncomputable def C11_19 : Code := cr C11_4
noncomputable def C11_20 : Code := cl C11_19
noncomputable def R11_6 : Array Oper := regOps C11_20
noncomputable def C11_21 : Code := cr C11_19
theorem R11_0_N : dstsOk 35 R11_0 = true := by decide +kernel
theorem E11_1 : C11_1 = .region 0 R11_0 false := rfl
theorem R11_1_N : dstsOk 35 R11_1 = true := by decide +kernel
theorem E11_3 : C11_3 = .region 1 R11_1 false := rfl
theorem R11_2_N : dstsOk 35 R11_2 = true := by decide +kernel
theorem E11_6 : C11_6 = .region 2 R11_2 false := rfl
theorem R11_3_N : dstsOk 35 R11_3 = true := by decide +kernel
theorem E11_11 : C11_11 = .region 3 R11_3 false := rfl
theorem E11_13 : C11_13 = .skip := rfl
theorem E11_14 : C11_14 = .exit 0 := rfl
theorem E11_12 : C11_12 = .cond (.tmp 10) C11_13 C11_14 := rfl
theorem E11_10 : C11_10 = .seq C11_11 C11_12 := rfl
theorem R11_5_N : dstsOk 35 R11_5 = true := by decide +kernel
theorem R11_5_O : drawOk R11_5 [0, 1, 2, 3, 4, 5, 6, 7, 8, 9, 10, 11, 12, 13, 14, 15, 16, 17, 18] [0] = true := by decide +kernel
theorem E11_17 : C11_17 = .region 5 R11_5 true := rfl
theorem E11_16 : C11_16 = .block 1 C11_17 := rfl
theorem R11_4_N : dstsOk 35 R11_4 = true := by decide +kernel
theorem E11_18 : C11_18 = .region 4 R11_4 false := rfl
theorem E11_15 : C11_15 = .seq C11_16 C11_18 := rfl
theorem E11_9 : C11_9 = .seq C11_10 C11_15 := rfl
theorem E11_8 : C11_8 = .loop C11_9 := rfl
theorem E11_7 : C11_7 = .block 0 C11_8 := rfl
theorem E11_5 : C11_5 = .seq C11_6 C11_7 := rfl
theorem R11_6_N : dstsOk 35 R11_6 = true := by decide +kernel
theorem E11_20 : C11_20 = .region 6 R11_6 false := rfl
theorem E11_21 : C11_21 = .ret := rfl
theorem E11_19 : C11_19 = .seq C11_20 C11_21 := rfl
theorem E11_4 : C11_4 = .seq C11_5 C11_19 := rfl
theorem E11_2 : C11_2 = .seq C11_3 C11_4 := rfl
theorem E11_0 : C11_0 = .seq C11_1 C11_2 := rfl
def S11_2 (Q : Value → AW → Prop) (E : List PanicEntry → AW → Prop) (nx1 : Value → Int → Value → Int → AW → Prop) (l_0 : Value) (by_1 : Int) (m_5 : Value) (i_6 : Int) (aw : AW) : Prop :=
  nx1 l_0 by_1 m_5 (IntKind.i64.wrap (i_6 + 1)) aw
def S11_1s (Q : Value → AW → Prop) (E : List PanicEntry → AW → Prop)  (nx1 : Value → Int → Value → Int → AW → Prop) (l_0 : Value) (by_1 : Int) (m_5 : Value) (i_6 : Int) (aw : AW) : Prop :=
  slen l_0 fun n1 =>
  cnd (decide (i_6 < n1)) (ixS l_0 i_6 3 fun p8 =>
  fldA p8 0 fun p17 =>
  ldI .u8 aw p17 fun x25 =>
  ixS l_0 i_6 3 fun p27 =>
  fldA p27 1 fun p36 =>
  ldS aw p36 fun x44 =>
  ixS l_0 i_6 3 fun p46 =>
  fldA p46 2 fun p55 =>
  ldI .i64 aw p55 fun x63 =>
  alcS aw [.int .u8 x25, .string x44, .int .i64 (IntKind.i64.wrap (x63 + by_1))] 33 3 1 fun p65 aw66 =>
  app aw66 33 3 32 m_5 p65 fun v69 aw70 =>
  S11_2 Q E nx1 l_0 by_1 v69 i_6 aw70) (Q m_5 aw)
def S11_1 (Q : Value → AW → Prop) (E : List PanicEntry → AW → Prop)  : Nat → Value → Int → Value → Int → AW → Prop
  | 0 => fun _ _ _ _ _ => False
  | n + 1 => S11_1s Q E  (S11_1 Q E  n)
def S11_0 (Q : Value → AW → Prop) (E : List PanicEntry → AW → Prop)  (l_0 : Value) (by_1 : Int) (aw : AW) : Prop :=
  ∃ n, S11_1 Q E  n l_0 by_1 (.slice none 0 0) 0 aw
set_option maxHeartbeats 4000000 in
set_option maxRecDepth 100000 in
theorem S11_2_ok (Q : Value → AW → Prop) (E : List PanicEntry → AW → Prop) (nx1 : Value → Int → Value → Int → AW → Prop) (L1 : ∀ (ρ : Env) (l_0 : Value) (by_1 : Int) (m_5 : Value) (i_6 : Int) (aw : AW) (h0 : ρ 0 = l_0) (h1 : ρ 1 = .int .i64 by_1) (h5 : ρ 5 = m_5) (h6 : ρ 6 = .int .i64 i_6), nx1 l_0 by_1 m_5 i_6 aw → AGo prog 35 [.code C11_9, .inLoop C11_9, .inBlock 0, .code C11_19] ρ [] aw (RR prog f11 35 sh11 Q E)) (ρ : Env) (l_0 : Value) (by_1 : Int) (m_5 : Value) (i_6 : Int) (aw : AW) (h0 : ρ 0 = l_0) (h1 : ρ 1 = .int .i64 by_1) (h5 : ρ 5 = m_5) (h6 : ρ 6 = .int .i64 i_6) (H : S11_2 Q E nx1 l_0 by_1 m_5 i_6 aw) :
    AGo prog 35 [.inBlock 1, .code C11_18, .inLoop C11_9, .inBlock 0, .code C11_19] ρ [] aw (RR prog f11 35 sh11 Q E) := by
  unfold S11_2 at H
  refine ago_inBlock ?_
  refine ago_regE E11_18 (l := [0, 1, 2]) rfl ?_
  refine lk (dt := some 11) R11_4_N rfl rfl rfl (opv_move rfl rfl h6) ?_
  refine lk (dt := some 12) R11_4_N rfl rfl rfl (opv_add rfl rfl rfl rfl rfl) ?_
  refine lk (dt := some 6) R11_4_N rfl rfl rfl (opv_assign rfl rfl rfl) ?_
  refine aops_nil ?_
  refine ago_inLoop ?_
  exact L1 _ l_0 by_1 m_5 (IntKind.i64.wrap (i_6 + 1)) aw h0 h1 h5 rfl H
set_option maxHeartbeats 4000000 in
set_option maxRecDepth 100000 in
theorem S11_1s_ok (Q : Value → AW → Prop) (E : List PanicEntry → AW → Prop)  (nx1 : Value → Int → Value → Int → AW → Prop) (L1 : ∀ (ρ : Env) (l_0 : Value) (by_1 : Int) (m_5 : Value) (i_6 : Int) (aw : AW) (h0 : ρ 0 = l_0) (h1 : ρ 1 = .int .i64 by_1) (h5 : ρ 5 = m_5) (h6 : ρ 6 = .int .i64 i_6), nx1 l_0 by_1 m_5 i_6 aw → AGo prog 35 [.code C11_9, .inLoop C11_9, .inBlock 0, .code C11_19] ρ [] aw (RR prog f11 35 sh11 Q E)) (ρ : Env) (l_0 : Value) (by_1 : Int) (m_5 : Value) (i_6 : Int) (aw : AW) (h0 : ρ 0 = l_0) (h1 : ρ 1 = .int .i64 by_1) (h5 : ρ 5 = m_5) (h6 : ρ 6 = .int .i64 i_6) (H : S11_1s Q E  nx1 l_0 by_1 m_5 i_6 aw) :
    AGo prog 35 [.code C11_9, .inLoop C11_9, .inBlock 0, .code C11_19] ρ [] aw (RR prog f11 35 sh11 Q E) := by
  unfold S11_1s at H
  refine ago_seqE E11_9 ?_
  refine ago_seqE E11_10 ?_
  refine ago_regE E11_11 (l := [0, 1, 2, 3]) rfl ?_
  refine lk (dt := some 7) R11_3_N rfl rfl rfl (opv_move rfl rfl h6) ?_
  refine lk (dt := some 8) R11_3_N rfl rfl rfl (opv_move rfl rfl h0) ?_
  obtain ⟨q2, l3, c4, n1, hv5, hn6, H⟩ := H
  refine lk (dt := some 9) R11_3_N rfl rfl rfl (ov_len rfl rfl rfl underlying23 rfl hv5 hn6) ?_
  refine lk (dt := some 10) R11_3_N rfl rfl rfl (opv_lt rfl rfl rfl rfl rfl) ?_
  refine aops_nil ?_
  refine ago_condE  E11_12 rfl rfl (fun hb7 => ?_) (fun hb7 => ?_)
  · replace H := cnd_t H hb7
    refine ago_skipE E11_13 ?_
    refine ago_seqE E11_15 ?_
    refine ago_blockE E11_16 ?_
    obtain ⟨b9, i10, l11, c12, p8, hp13, h014, hj15, hv16, H⟩ := H
    obtain ⟨b18, i19, p17, hp20, hv21, H⟩ := H
    obtain ⟨b22, i23, x25, hp24, hg26, H⟩ := H
    obtain ⟨b28, i29, l30, c31, p27, hp32, h033, hj34, hv35, H⟩ := H
    obtain ⟨b37, i38, p36, hp39, hv40, H⟩ := H
    obtain ⟨b41, i42, x44, hp43, hg45, H⟩ := H
    obtain ⟨b47, i48, l49, c50, p46, hp51, h052, hj53, hv54, H⟩ := H
    obtain ⟨b56, i57, p55, hp58, hv59, H⟩ := H
    obtain ⟨b60, i61, x63, hp62, hg64, H⟩ := H
    refine ago_drawE (hs := [0, 1, 2, 3, 4, 5, 6, 7, 8, 9, 10, 11, 12, 13, 14, 15, 16, 17, 18]) (fl := [0]) (hv := [(0, m_5), (1, l_0), (2, Value.int .i64 i_6), (3, p8), (4, p17), (5, Value.int .u8 x25), (6, l_0), (7, Value.int .i64 i_6), (8, p27), (9, p36), (10, Value.string x44), (11, l_0), (12, Value.int .i64 i_6), (13, p46), (14, p55), (15, Value.int .i64 x63), (16, Value.int .i64 by_1), (17, Value.int .i64 (IntKind.i64.wrap (x63 + by_1))), (18, Value.agg #[.int .u8 x25, .string x44, .int .i64 (IntKind.i64.wrap (x63 + by_1))])]) E11_17 mixed R11_5_N R11_5_O (by decide) rfl (pv_cons rfl (pv_cons rfl (pv_cons rfl (pv_cons rfl (pv_cons rfl (pv_cons rfl (pv_cons rfl (pv_cons rfl (pv_cons rfl (pv_cons rfl (pv_cons rfl (pv_cons rfl (pv_cons rfl (pv_cons rfl (pv_cons rfl (pv_cons rfl (pv_cons rfl (pv_cons rfl (pv_cons rfl (pv_nil _))))))))))))))))))))
      ⟨(hd_v rfl fun ρ hρ => ⟨rfl, opv_move rfl rfl ((hρ 5 (lmem rfl)).trans h5)⟩),
      (hd_v rfl fun ρ hρ => ⟨rfl, opv_move rfl rfl ((hρ 0 (lmem rfl)).trans h0)⟩),
      (hd_v rfl fun ρ hρ => ⟨rfl, opv_move rfl rfl ((hρ 6 (lmem rfl)).trans h6)⟩),
      (hd_v rfl fun ρ hρ => ⟨rfl, ov_ixS rfl rfl rfl underlying23 sz33 ((hρ 14 (lmem rfl)).trans rfl) ((hρ 15 (lmem rfl)).trans rfl) hp13 h014 hj15 hv16⟩),
      (hd_v rfl fun ρ hρ => ⟨rfl, ov_fldA rfl rfl underlying33 rfl sz5 (by decide) ((hρ 16 (lmem rfl)).trans rfl) hp20 rfl hv21⟩),
      (hd_v rfl fun ρ hρ => ⟨rfl, ov_ldI rfl underlying5 rfl ((hρ 17 (lmem rfl)).trans rfl) hp24 hg26⟩),
      (hd_v rfl fun ρ hρ => ⟨rfl, opv_move rfl rfl ((hρ 0 (lmem rfl)).trans h0)⟩),
      (hd_v rfl fun ρ hρ => ⟨rfl, opv_move rfl rfl ((hρ 6 (lmem rfl)).trans h6)⟩),
      (hd_v rfl fun ρ hρ => ⟨rfl, ov_ixS rfl rfl rfl underlying23 sz33 ((hρ 19 (lmem rfl)).trans rfl) ((hρ 20 (lmem rfl)).trans rfl) hp32 h033 hj34 hv35⟩),
      (hd_v rfl fun ρ hρ => ⟨rfl, ov_fldA rfl rfl underlying33 rfl sz9 (by decide) ((hρ 21 (lmem rfl)).trans rfl) hp39 rfl hv40⟩),
      (hd_v rfl fun ρ hρ => ⟨rfl, ov_ldS rfl underlying9 rfl ((hρ 22 (lmem rfl)).trans rfl) hp43 hg45⟩),
      (hd_v rfl fun ρ hρ => ⟨rfl, opv_move rfl rfl ((hρ 0 (lmem rfl)).trans h0)⟩),
      (hd_v rfl fun ρ hρ => ⟨rfl, opv_move rfl rfl ((hρ 6 (lmem rfl)).trans h6)⟩),
      (hd_v rfl fun ρ hρ => ⟨rfl, ov_ixS rfl rfl rfl underlying23 sz33 ((hρ 24 (lmem rfl)).trans rfl) ((hρ 25 (lmem rfl)).trans rfl) hp51 h052 hj53 hv54⟩),
      (hd_v rfl fun ρ hρ => ⟨rfl, ov_fldA rfl rfl underlying33 rfl sz3 (by decide) ((hρ 26 (lmem rfl)).trans rfl) hp58 rfl hv59⟩),
      (hd_v rfl fun ρ hρ => ⟨rfl, ov_ldI rfl underlying3 rfl ((hρ 27 (lmem rfl)).trans rfl) hp62 hg64⟩),
      (hd_v rfl fun ρ hρ => ⟨rfl, opv_move rfl rfl ((hρ 1 (lmem rfl)).trans h1)⟩),
      (hd_v rfl fun ρ hρ => ⟨rfl, opv_add rfl rfl rfl ((hρ 28 (lmem rfl)).trans rfl) ((hρ 29 (lmem rfl)).trans rfl)⟩),
      (hd_v rfl fun ρ hρ => ⟨rfl, ov_bld (r := [.int .u8 x25, .string x44, .int .i64 (IntKind.i64.wrap (x63 + by_1))]) rfl rfl bo33 (mp_cons ((hρ 18 (lmem rfl)).trans rfl) (mp_cons ((hρ 23 (lmem rfl)).trans rfl) (mp_cons ((hρ 30 (lmem rfl)).trans rfl) rfl))) (fillP rfl rfl rfl rfl (fillP rfl rfl rfl rfl (fillP rfl rfl rfl rfl (fillN rfl))))⟩),
      trivial⟩ ?_
    refine tailAll_cons (hv' := [(0, m_5), (1, l_0), (2, Value.int .i64 i_6), (3, p8), (4, p17), (5, Value.int .u8 x25), (6, l_0), (7, Value.int .i64 i_6), (8, p27), (9, p36), (10, Value.string x44), (11, l_0), (12, Value.int .i64 i_6), (13, p46), (14, p55), (15, Value.int .i64 x63), (16, Value.int .i64 by_1), (17, Value.int .i64 (IntKind.i64.wrap (x63 + by_1))), (18, Value.agg #[.int .u8 x25, .string x44, .int .i64 (IntKind.i64.wrap (x63 + by_1))])]) rfl (pv_cons rfl (pv_cons rfl (pv_cons rfl (pv_cons rfl (pv_cons rfl (pv_cons rfl (pv_cons rfl (pv_cons rfl (pv_cons rfl (pv_cons rfl (pv_cons rfl (pv_cons rfl (pv_cons rfl (pv_cons rfl (pv_cons rfl (pv_cons rfl (pv_cons rfl (pv_cons rfl (pv_cons rfl (pv_nil _)))))))))))))))))))) ?_ ?_
    · skip
      refine tail_n (m := 2) (is := [19]) (by decide +kernel) (by decide +kernel) rfl ⟨?_, trivial⟩
      obtain ⟨p65, aw66, hp67, ha68, H⟩ := H
      refine lk (dt := some 32) R11_5_N rfl rfl rfl (ov_bsA (r := [.int .u8 x25, .string x44, .int .i64 (IntKind.i64.wrap (x63 + by_1))]) (vs := [.agg #[.int .u8 x25, .string x44, .int .i64 (IntKind.i64.wrap (x63 + by_1))]]) rfl rfl underlying23 sz33 z33 rfl rfl rfl rfl rfl (mp_cons rfl rfl) (.cons rfl rfl .nil) hp67 ha68) ?_
      refine aops_nil ?_
      refine tail_n (m := 1) (is := [20]) (by decide +kernel) (by decide +kernel) rfl ⟨?_, trivial⟩
      obtain ⟨v69, aw70, hq71, H⟩ := H
      refine lk (dt := some 33) R11_5_N rfl rfl rfl (ov_app rfl rfl rfl rfl underlying23 sz33 by33 underlying23 rfl z33 rfl (by decide) (by decide) rfl rfl hq71) ?_
      refine aops_nil ?_
      refine tail_n (m := 0) (is := [21]) (by decide +kernel) (by decide +kernel) rfl ⟨?_, trivial⟩
      refine lk (dt := some 5) R11_5_N rfl rfl rfl (opv_assign rfl rfl rfl) ?_
      refine aops_nil ?_
      refine tail_0 (by decide +kernel) ?_
      exact S11_2_ok Q E nx1 L1 _ l_0 by_1 v69 i_6 aw70 h0 h1 rfl h6 H
    refine tailAll_cons (hv' := [(1, l_0), (2, Value.int .i64 i_6), (3, p8), (4, p17), (5, Value.int .u8 x25), (6, l_0), (7, Value.int .i64 i_6), (8, p27), (9, p36), (10, Value.string x44), (11, l_0), (12, Value.int .i64 i_6), (13, p46), (14, p55), (15, Value.int .i64 x63), (16, Value.int .i64 by_1), (17, Value.int .i64 (IntKind.i64.wrap (x63 + by_1))), (18, Value.agg #[.int .u8 x25, .string x44, .int .i64 (IntKind.i64.wrap (x63 + by_1))])]) rfl (pv_cons rfl (pv_cons rfl (pv_cons rfl (pv_cons rfl (pv_cons rfl (pv_cons rfl (pv_cons rfl (pv_cons rfl (pv_cons rfl (pv_cons rfl (pv_cons rfl (pv_cons rfl (pv_cons rfl (pv_cons rfl (pv_cons rfl (pv_cons rfl (pv_cons rfl (pv_cons rfl (pv_nil _))))))))))))))))))) ?_ ?_
    · skip
      refine tail_n (m := 3) (is := [0, 19]) (by decide +kernel) (by decide +kernel) rfl ⟨?_, ?_, trivial⟩
      · skip
        refine lk (dt := some 13) R11_5_N rfl rfl rfl (opv_move rfl rfl h5) ?_
        refine aops_nil ?_
        refine tail_n (m := 2) (is := [19]) (by decide +kernel) (by decide +kernel) rfl ⟨?_, trivial⟩
        obtain ⟨p65, aw66, hp67, ha68, H⟩ := H
        refine lk (dt := some 32) R11_5_N rfl rfl rfl (ov_bsA (r := [.int .u8 x25, .string x44, .int .i64 (IntKind.i64.wrap (x63 + by_1))]) (vs := [.agg #[.int .u8 x25, .string x44, .int .i64 (IntKind.i64.wrap (x63 + by_1))]]) rfl rfl underlying23 sz33 z33 rfl rfl rfl rfl rfl (mp_cons rfl rfl) (.cons rfl rfl .nil) hp67 ha68) ?_
        refine aops_nil ?_
        refine tail_n (m := 1) (is := [20]) (by decide +kernel) (by decide +kernel) rfl ⟨?_, trivial⟩
        obtain ⟨v69, aw70, hq71, H⟩ := H
        refine lk (dt := some 33) R11_5_N rfl rfl rfl (ov_app rfl rfl rfl rfl underlying23 sz33 by33 underlying23 rfl z33 rfl (by decide) (by decide) rfl rfl hq71) ?_
        refine aops_nil ?_
        refine tail_n (m := 0) (is := [21]) (by decide +kernel) (by decide +kernel) rfl ⟨?_, trivial⟩
        refine lk (dt := some 5) R11_5_N rfl rfl rfl (opv_assign rfl rfl rfl) ?_
        refine aops_nil ?_
        refine tail_0 (by decide +kernel) ?_
        exact S11_2_ok Q E nx1 L1 _ l_0 by_1 v69 i_6 aw70 h0 h1 rfl h6 H
      · skip
        obtain ⟨p65, aw66, hp67, ha68, H⟩ := H
        refine lk (dt := some 32) R11_5_N rfl rfl rfl (ov_bsA (r := [.int .u8 x25, .string x44, .int .i64 (IntKind.i64.wrap (x63 + by_1))]) (vs := [.agg #[.int .u8 x25, .string x44, .int .i64 (IntKind.i64.wrap (x63 + by_1))]]) rfl rfl underlying23 sz33 z33 rfl rfl rfl rfl rfl (mp_cons rfl rfl) (.cons rfl rfl .nil) hp67 ha68) ?_
        refine aops_nil ?_
        refine tail_n (m := 2) (is := [0]) (by decide +kernel) (by decide +kernel) rfl ⟨?_, trivial⟩
        refine lk (dt := some 13) R11_5_N rfl rfl rfl (opv_move rfl rfl h5) ?_
        refine aops_nil ?_
        refine tail_n (m := 1) (is := [20]) (by decide +kernel) (by decide +kernel) rfl ⟨?_, trivial⟩
        obtain ⟨v69, aw70, hq71, H⟩ := H
        refine lk (dt := some 33) R11_5_N rfl rfl rfl (ov_app rfl rfl rfl rfl underlying23 sz33 by33 underlying23 rfl z33 rfl (by decide) (by decide) rfl rfl hq71) ?_
        refine aops_nil ?_
        refine tail_n (m := 0) (is := [21]) (by decide +kernel) (by decide +kernel) rfl ⟨?_, trivial⟩
        refine lk (dt := some 5) R11_5_N rfl rfl rfl (opv_assign rfl rfl rfl) ?_
        refine aops_nil ?_
        refine tail_0 (by decide +kernel) ?_
        exact S11_2_ok Q E nx1 L1 _ l_0 by_1 v69 i_6 aw70 h0 h1 rfl h6 H
    exact trivial
  · replace H := cnd_f H hb7
    refine ago_exitE E11_14 rfl ?_
    refine ago_seqE E11_19 ?_
    refine ago_regE E11_20 (l := [0, 1]) rfl ?_
    refine lk (dt := some 34) R11_6_N rfl rfl rfl (opv_move rfl rfl h5) ?_
    refine lk (dt := some 4) R11_6_N rfl rfl rfl (opv_assign rfl rfl rfl) ?_
    refine aops_nil ?_
    exact ago_retE E11_21 (r := m_5) (ares_1 rfl (oneT rfl)) rfl H
theorem S11_1_ok (Q : Value → AW → Prop) (E : List PanicEntry → AW → Prop)  : ∀ (n : Nat) (ρ : Env) (l_0 : Value) (by_1 : Int) (m_5 : Value) (i_6 : Int) (aw : AW) (h0 : ρ 0 = l_0) (h1 : ρ 1 = .int .i64 by_1) (h5 : ρ 5 = m_5) (h6 : ρ 6 = .int .i64 i_6), S11_1 Q E  n l_0 by_1 m_5 i_6 aw →
    AGo prog 35 [.code C11_9, .inLoop C11_9, .inBlock 0, .code C11_19] ρ [] aw (RR prog f11 35 sh11 Q E)
  | 0, _, _, _, _, _, _, _, _, _, _ => fun H => H.elim
  | n + 1, ρ, l_0, by_1, m_5, i_6, aw, h0, h1, h5, h6 => fun H => S11_1s_ok Q E  _ (S11_1_ok Q E  n) ρ l_0 by_1 m_5 i_6 aw h0 h1 h5 h6 H
set_option maxHeartbeats 4000000 in
set_option maxRecDepth 100000 in
theorem S11_0_ok (Q : Value → AW → Prop) (E : List PanicEntry → AW → Prop)  (ρ : Env) (l_0 : Value) (by_1 : Int) (aw : AW) (h0 : ρ 0 = l_0) (h1 : ρ 1 = .int .i64 by_1) (H : S11_0 Q E  l_0 by_1 aw) :
    AGo prog 35 [.code C11_0] ρ [] aw (RR prog f11 35 sh11 Q E) := by
  unfold S11_0 at H
  refine ago_seqE E11_0 ?_
  refine ago_regE E11_1 (l := [0]) rfl ?_
  refine lk (dt := some 4) R11_0_N rfl rfl rfl (opv_assign rfl rfl rfl) ?_
  refine aops_nil ?_
  refine ago_seqE E11_2 ?_
  refine ago_regE E11_3 (l := [0]) rfl ?_
  refine lk (dt := some 5) R11_1_N rfl rfl rfl (opv_assign rfl rfl rfl) ?_
  refine aops_nil ?_
  refine ago_seqE E11_4 ?_
  refine ago_seqE E11_5 ?_
  refine ago_regE E11_6 (l := [0]) rfl ?_
  refine lk (dt := some 6) R11_2_N rfl rfl rfl (opv_assign rfl rfl rfl) ?_
  refine aops_nil ?_
  refine ago_blockE E11_7 ?_
  refine ago_loopE E11_8 ?_
  obtain ⟨n, H⟩ := H
  exact S11_1_ok Q E  n _ l_0 by_1 (.slice none 0 0) 0 aw h0 h1 rfl rfl H
theorem F11_ok {Q : Value → AW → Prop} {E : List PanicEntry → AW → Prop} (l_0 : Value) (by_1 : Int) (aw : AW) (H : S11_0 Q E l_0 by_1 aw) : CallP prog 11 [l_0, .int .i64 by_1] aw sh11 Q E :=
  callP_of func11 C11_is rfl (Nat.le_of_ble_eq_true rfl) (S11_0_ok Q E _ l_0 by_1 aw rfl rfl H)
/-! ### battledore/battledorelaw03.LexJoins: function 3 -/
noncomputable def C3_0 : Code := bodyOf f3
theorem C3_is : f3.body = some C3_0 := by kernel_rfl
noncomputable def C3_1 : Code := cl C3_0
noncomputable def R3_0 : Array Oper := regOps C3_1
noncomputable def C3_2 : Code := cr C3_0
noncomputable def C3_3 : Code := cl C3_2
noncomputable def C3_4 : Code := cl C3_3
noncomputable def R3_1 : Array Oper := regOps C3_4
noncomputable def C3_5 : Code := cr C3_3
noncomputable def C3_6 : Code := cl C3_5
noncomputable def C3_7 : Code := cl C3_6
noncomputable def R3_2 : Array Oper := regOps C3_7
noncomputable def C3_8 : Code := cr C3_6
noncomputable def C3_9 : Code := cr C3_5
noncomputable def C3_10 : Code := cr C3_2
noncomputable def C3_11 : Code := cl C3_10
noncomputable def R3_3 : Array Oper := regOps C3_11
noncomputable def C3_12 : Code := cr C3_10
noncomputable def C3_13 : Code := cl C3_12
noncomputable def R3_4 : Array Oper := regOps C3_13
noncomputable def C3_14 : Code := cr C3_12
noncomputable def C3_15 : Code := cl C3_14
noncomputable def R3_5 : Array Oper := regOps C3_15
noncomputable def C3_16 : Code := cr C3_14
noncomputable def C3_17 : Code := cl C3_16
noncomputable def C3_18 : Code := cl C3_17
noncomputable def R3_6 : Array Oper := regOps C3_18
noncomputable def C3_19 : Code := cr C3_17
noncomputable def C3_20 : Code := cl C3_19
noncomputable def C3_21 : Code := cl C3_20
noncomputable def R3_7 : Array Oper := regOps C3_21
noncomputable def C3_22 : Code := cr C3_20
noncomputable def C3_23 : Code := cr C3_19
noncomputable def C3_24 : Code := cr C3_16
noncomputable def C3_25 : Code := cl C3_24
noncomputable def C3_26 : Code := cl C3_25
noncomputable def R3_8 : Array Oper := regOps C3_26
noncomputable def C3_27 : Code := cr C3_25
noncomputable def C3_28 : Code := cl C3_27
noncomputable def C3_29 : Code := cl C3_28
noncomputable def R3_9 : Array Oper := regOps C3_29
noncomputable def C3_30 : Code := cr C3_28
noncomputable def C3_31 : Code := cr C3_27
noncomputable def C3_32 : Code := cr C3_24
noncomputable def C3_33 : Code := cl C3_32
noncomputable def R3_10 : Array Oper := regOps C3_33
noncomputable def C3_34 : Code := cr C3_32
noncomputable def C3_35 : Code := cl C3_34
noncomputable def R3_11 : Array Oper := regOps C3_35
noncomputable def C3_36 : Code := cr C3_34
noncomputable def C3_37 : Code := cl C3_36
noncomputable def R3_12 : Array Oper := regOps C3_37
noncomputable def C3_38 : Code := cr C3_36
noncomputable def C3_39 : Code := cl C3_38
noncomputable def R3_13 : Array Oper := regOps C3_39
noncomputable def C3_40 : Code := cr C3_38
theorem R3_0_N : dstsOk 84 R3_0 = true := by decide +kernel
theorem E3_1 : C3_1 = .region 0 R3_0 false := rfl
theorem R3_1_N : dstsOk 84 R3_1 = true := by decide +kernel
theorem E3_4 : C3_4 = .region 1 R3_1 false := rfl
theorem R3_2_N : dstsOk 84 R3_2 = true := by decide +kernel
theorem E3_7 : C3_7 = .region 2 R3_2 false := rfl
theorem E3_8 : C3_8 = .ret := rfl
theorem E3_6 : C3_6 = .seq C3_7 C3_8 := rfl
theorem E3_9 : C3_9 = .skip := rfl
theorem E3_5 : C3_5 = .cond (.tmp 24) C3_6 C3_9 := rfl
theorem E3_3 : C3_3 = .seq C3_4 C3_5 := rfl
theorem R3_3_N : dstsOk 84 R3_3 = true := by decide +kernel
theorem E3_11 : C3_11 = .region 3 R3_3 false := rfl
theorem R3_4_N : dstsOk 84 R3_4 = true := by decide +kernel
theorem E3_13 : C3_13 = .region 4 R3_4 false := rfl
theorem R3_5_N : dstsOk 84 R3_5 = true := by decide +kernel
theorem E3_15 : C3_15 = .region 5 R3_5 false := rfl
theorem R3_6_N : dstsOk 84 R3_6 = true := by decide +kernel
theorem E3_18 : C3_18 = .region 6 R3_6 false := rfl
theorem R3_7_N : dstsOk 84 R3_7 = true := by decide +kernel
theorem E3_21 : C3_21 = .region 7 R3_7 false := rfl
theorem E3_22 : C3_22 = .ret := rfl
theorem E3_20 : C3_20 = .seq C3_21 C3_22 := rfl
theorem E3_23 : C3_23 = .skip := rfl
theorem E3_19 : C3_19 = .cond (.tmp 48) C3_20 C3_23 := rfl
theorem E3_17 : C3_17 = .seq C3_18 C3_19 := rfl
theorem R3_8_N : dstsOk 84 R3_8 = true := by decide +kernel
theorem E3_26 : C3_26 = .region 8 R3_8 false := rfl
theorem R3_9_N : dstsOk 84 R3_9 = true := by decide +kernel
theorem E3_29 : C3_29 = .region 9 R3_9 false := rfl
theorem E3_30 : C3_30 = .ret := rfl
theorem E3_28 : C3_28 = .seq C3_29 C3_30 := rfl
theorem E3_31 : C3_31 = .skip := rfl
theorem E3_27 : C3_27 = .cond (.tmp 50) C3_28 C3_31 := rfl
theorem E3_25 : C3_25 = .seq C3_26 C3_27 := rfl
theorem R3_10_N : dstsOk 84 R3_10 = true := by decide +kernel
theorem E3_33 : C3_33 = .region 10 R3_10 false := rfl
theorem R3_11_N : dstsOk 84 R3_11 = true := by decide +kernel
theorem E3_35 : C3_35 = .region 11 R3_11 false := rfl
theorem R3_12_N : dstsOk 84 R3_12 = true := by decide +kernel
theorem E3_37 : C3_37 = .region 12 R3_12 false := rfl
theorem R3_13_N : dstsOk 84 R3_13 = true := by decide +kernel
theorem E3_39 : C3_39 = .region 13 R3_13 false := rfl
theorem E3_40 : C3_40 = .ret := rfl
theorem E3_38 : C3_38 = .seq C3_39 C3_40 := rfl
theorem E3_36 : C3_36 = .seq C3_37 C3_38 := rfl
theorem E3_34 : C3_34 = .seq C3_35 C3_36 := rfl
theorem E3_32 : C3_32 = .seq C3_33 C3_34 := rfl
theorem E3_24 : C3_24 = .seq C3_25 C3_32 := rfl
theorem E3_16 : C3_16 = .seq C3_17 C3_24 := rfl
theorem E3_14 : C3_14 = .seq C3_15 C3_16 := rfl
theorem E3_12 : C3_12 = .seq C3_13 C3_14 := rfl
theorem E3_10 : C3_10 = .seq C3_11 C3_12 := rfl
theorem E3_2 : C3_2 = .seq C3_3 C3_10 := rfl
theorem E3_0 : C3_0 = .seq C3_1 C3_2 := rfl
def S3_1 (Q : Bool → AW → Prop) (E : List PanicEntry → AW → Prop)  (a_0 : ByteArray) (b_1 : ByteArray) (t_24 : Bool) (aw : AW) : Prop :=
  cnd t_24 (CallP prog 9 [] aw sh9 (fun r2 aw3 =>
  Q r2 aw3) E) (CallP prog 10 [.string a_0] aw sh10 (fun r4 aw5 =>
  CallP prog 10 [.string b_1] aw5 sh10 (fun r6 aw7 =>
  a_0.size + (⟨#[10]⟩ : ByteArray).size ≤ 2 ^ 62 ∧ (a_0 ++ (⟨#[10]⟩ : ByteArray)).size + b_1.size ≤ 2 ^ 62 ∧ CallP prog 10 [.string ((a_0 ++ (⟨#[10]⟩ : ByteArray)) ++ b_1)] aw7 sh10 (fun r10 aw11 =>
  cnd (!decide (r4.2.2 = 0)) (Q true aw11) (cnd (!decide (r6.2.2 = 0)) (cnd (decide (r10.2.2 = r6.2.2)) (Q (decide (r10.2.1 = (IntKind.i64.wrap ((IntKind.i64.wrap ((a_0.size : Int) + 1)) + r6.2.1)))) aw11) (Q false aw11)) (slen r4.1 fun n15 =>
  cutV aw11 3 r4.1 0 (IntKind.i64.wrap (n15 - 1)) fun v21 =>
  app aw11 33 3 32 (.slice none 0 0) v21 fun v23 aw24 =>
  CallP prog 11 [r6.1, .int .i64 (IntKind.i64.wrap ((a_0.size : Int) + 1))] aw24 sh11 (fun r26 aw27 =>
  app aw27 33 3 32 v23 r26 fun v28 aw29 =>
  cnd (decide (r10.2.2 = 0)) (CallP prog 12 [r10.1, v28] aw29 sh12 (fun r32 aw33 =>
  Q r32 aw33) E) (Q false aw29)) E))) E) E) E)
def S3_0 (Q : Bool → AW → Prop) (E : List PanicEntry → AW → Prop)  (a_0 : ByteArray) (b_1 : ByteArray) (aw : AW) : Prop :=
  CallP prog 9 [] aw sh9 (fun r34 aw35 =>
  cnd (!r34) (S3_1 Q E  a_0 b_1 true aw35) (S3_1 Q E  a_0 b_1 (decide (1999 < (IntKind.i64.wrap ((a_0.size : Int) + (b_1.size : Int))))) aw35)) E
set_option maxHeartbeats 4000000 in
set_option maxRecDepth 100000 in
theorem S3_1_ok (Q : Bool → AW → Prop) (E : List PanicEntry → AW → Prop)  (ρ : Env) (a_0 : ByteArray) (b_1 : ByteArray) (t_24 : Bool) (aw : AW) (h0 : ρ 0 = .string a_0) (h1 : ρ 1 = .string b_1) (h24 : ρ 24 = .bool t_24) (H : S3_1 Q E  a_0 b_1 t_24 aw) :
    AGo prog 84 [.code C3_5, .code C3_10] ρ [] aw (RR prog f3 84 sh3 Q E) := by
  unfold S3_1 at H
  refine ago_condE  E3_5 rfl h24 (fun hb1 => ?_) (fun hb1 => ?_)
  · replace H := cnd_t H hb1
    refine ago_seqE E3_6 ?_
    refine ago_regE E3_7 (l := [0, 1]) rfl ?_
    refine lk_call (dt := some 25) R3_2_N rfl rfl rfl (opc_of rfl rfl is9 rfl) H (fun _ _ h => ⟨rfl, h⟩) fun r2 aw3 H => ?_
    refine lk (dt := some 4) R3_2_N rfl rfl rfl (opv_assign rfl rfl rfl) ?_
    refine aops_nil ?_
    exact ago_retE E3_8 (r := r2) (ares_1 rfl (oneT rfl)) rfl H
  · replace H := cnd_f H hb1
    refine ago_skipE E3_9 ?_
    refine ago_seqE E3_10 ?_
    refine ago_regE E3_11 (l := [0, 1, 2, 3, 4, 5, 6, 7, 8]) rfl ?_
    refine lk (dt := some 27) R3_3_N rfl rfl rfl (opv_move rfl rfl h0) ?_
    refine lk_call (dt := some 28) R3_3_N rfl rfl rfl (opc_of rfl rfl is10 (ma_cons rfl rfl)) H (fun _ _ h => ⟨rfl, h⟩) fun r4 aw5 H => ?_
    refine lk (dt := some 26) R3_3_N rfl rfl rfl (opv_move rfl rfl rfl) ?_
    refine lk (dt := some 29) R3_3_N rfl rfl rfl (opv_extract rfl rfl rfl rfl) ?_
    refine lk (dt := some 30) R3_3_N rfl rfl rfl (opv_extract rfl rfl rfl rfl) ?_
    refine lk (dt := some 31) R3_3_N rfl rfl rfl (opv_extract rfl rfl rfl rfl) ?_
    refine lk (dt := some 5) R3_3_N rfl rfl rfl (opv_assign rfl rfl rfl) ?_
    refine lk (dt := some 6) R3_3_N rfl rfl rfl (opv_assign rfl rfl rfl) ?_
    refine lk (dt := some 7) R3_3_N rfl rfl rfl (opv_assign rfl rfl rfl) ?_
    refine aops_nil ?_
    refine ago_seqE E3_12 ?_
    refine ago_regE E3_13 (l := [0, 1, 2, 3, 4, 5, 6, 7, 8]) rfl ?_
    refine lk (dt := some 33) R3_4_N rfl rfl rfl (opv_move rfl rfl h1) ?_
    refine lk_call (dt := some 34) R3_4_N rfl rfl rfl (opc_of rfl rfl is10 (ma_cons rfl rfl)) H (fun _ _ h => ⟨rfl, h⟩) fun r6 aw7 H => ?_
    refine lk (dt := some 32) R3_4_N rfl rfl rfl (opv_move rfl rfl rfl) ?_
    refine lk (dt := some 35) R3_4_N rfl rfl rfl (opv_extract rfl rfl rfl rfl) ?_
    refine lk (dt := some 36) R3_4_N rfl rfl rfl (opv_extract rfl rfl rfl rfl) ?_
    refine lk (dt := some 37) R3_4_N rfl rfl rfl (opv_extract rfl rfl rfl rfl) ?_
    refine lk (dt := some 8) R3_4_N rfl rfl rfl (opv_assign rfl rfl rfl) ?_
    refine lk (dt := some 9) R3_4_N rfl rfl rfl (opv_assign rfl rfl rfl) ?_
    refine lk (dt := some 10) R3_4_N rfl rfl rfl (opv_assign rfl rfl rfl) ?_
    refine aops_nil ?_
    refine ago_seqE E3_14 ?_
    refine ago_cut (fun ρ => ρ 0 = .string a_0 ∧ ρ 1 = .string b_1 ∧ ρ 5 = r4.1 ∧ ρ 7 = .int .i64 r4.2.2 ∧ ρ 8 = r6.1 ∧ ρ 9 = .int .i64 r6.2.1 ∧ ρ 10 = .int .i64 r6.2.2 ∧ True) ⟨h0, h1, rfl, rfl, rfl, rfl, rfl, trivial⟩ (fun ρ ⟨h0, h1, h5, h7, h8, h9, h10, _⟩ => ?_)
    refine ago_regE E3_15 (l := [0, 1, 2, 3, 4, 5, 6, 7, 8, 9, 10, 11]) rfl ?_
    refine lk (dt := some 39) R3_5_N rfl rfl rfl (opv_move rfl rfl h0) ?_
    obtain ⟨hz8, H⟩ := H
    refine lk (dt := some 40) R3_5_N rfl rfl rfl (opv_cat rfl rfl rfl rfl rfl hz8) ?_
    refine lk (dt := some 41) R3_5_N rfl rfl rfl (opv_move rfl rfl h1) ?_
    obtain ⟨hz9, H⟩ := H
    refine lk (dt := some 42) R3_5_N rfl rfl rfl (opv_cat rfl rfl rfl rfl rfl hz9) ?_
    refine lk_call (dt := some 43) R3_5_N rfl rfl rfl (opc_of rfl rfl is10 (ma_cons rfl rfl)) H (fun _ _ h => ⟨rfl, h⟩) fun r10 aw11 H => ?_
    refine lk (dt := some 38) R3_5_N rfl rfl rfl (opv_move rfl rfl rfl) ?_
    refine lk (dt := some 44) R3_5_N rfl rfl rfl (opv_extract rfl rfl rfl rfl) ?_
    refine lk (dt := some 45) R3_5_N rfl rfl rfl (opv_extract rfl rfl rfl rfl) ?_
    refine lk (dt := some 46) R3_5_N rfl rfl rfl (opv_extract rfl rfl rfl rfl) ?_
    refine lk (dt := some 11) R3_5_N rfl rfl rfl (opv_assign rfl rfl rfl) ?_
    refine lk (dt := some 12) R3_5_N rfl rfl rfl (opv_assign rfl rfl rfl) ?_
    refine lk (dt := some 13) R3_5_N rfl rfl rfl (opv_assign rfl rfl rfl) ?_
    refine aops_nil ?_
    refine ago_seqE E3_16 ?_
    refine ago_seqE E3_17 ?_
    refine ago_cut (fun ρ => ρ 0 = .string a_0 ∧ ρ 5 = r4.1 ∧ ρ 7 = .int .i64 r4.2.2 ∧ ρ 8 = r6.1 ∧ ρ 9 = .int .i64 r6.2.1 ∧ ρ 10 = .int .i64 r6.2.2 ∧ ρ 11 = r10.1 ∧ ρ 12 = .int .i64 r10.2.1 ∧ ρ 13 = .int .i64 r10.2.2 ∧ True) ⟨h0, h5, h7, h8, h9, h10, rfl, rfl, rfl, trivial⟩ (fun ρ ⟨h0, h5, h7, h8, h9, h10, h11, h12, h13, _⟩ => ?_)
    refine ago_regE E3_18 (l := [0, 1]) rfl ?_
    refine lk (dt := some 47) R3_6_N rfl rfl rfl (opv_move rfl rfl h7) ?_
    refine lk (dt := some 48) R3_6_N rfl rfl rfl (opv_neI rfl rfl rfl rfl rfl) ?_
    refine aops_nil ?_
    refine ago_condE  E3_19 rfl rfl (fun hb12 => ?_) (fun hb12 => ?_)
    · replace H := cnd_t H hb12
      refine ago_seqE E3_20 ?_
      refine ago_regE E3_21 (l := [0]) rfl ?_
      refine lk (dt := some 4) R3_7_N rfl rfl rfl (opv_assign rfl rfl rfl) ?_
      refine aops_nil ?_
      exact ago_retE E3_22 (r := true) (ares_1 rfl (oneT rfl)) rfl H
    · replace H := cnd_f H hb12
      refine ago_skipE E3_23 ?_
      refine ago_seqE E3_24 ?_
      refine ago_seqE E3_25 ?_
      refine ago_regE E3_26 (l := [0, 1]) rfl ?_
      refine lk (dt := some 49) R3_8_N rfl rfl rfl (opv_move rfl rfl h10) ?_
      refine lk (dt := some 50) R3_8_N rfl rfl rfl (opv_neI rfl rfl rfl rfl rfl) ?_
      refine aops_nil ?_
      refine ago_condE  E3_27 rfl rfl (fun hb13 => ?_) (fun hb13 => ?_)
      · replace H := cnd_t H hb13
        refine ago_seqE E3_28 ?_
        refine ago_regE E3_29 (l := [0, 1, 2, 3, 4, 5, 6, 7, 8, 9, 10, 11, 12]) rfl ?_
        refine lk (dt := some 51) R3_9_N rfl rfl rfl (opv_move rfl rfl h13) ?_
        refine lk (dt := some 52) R3_9_N rfl rfl rfl (opv_move rfl rfl h10) ?_
        refine lk (dt := some 53) R3_9_N rfl rfl rfl (opv_eqI rfl rfl rfl rfl rfl) ?_
        refine lk (dt := some 54) R3_9_N rfl rfl rfl (opv_move rfl rfl rfl) ?_
        rcases Bool.eq_false_or_eq_true (decide (r10.2.2 = r6.2.2)) with hb14 | hb14
        · replace H := cnd_t H hb14
          refine lk (dt := some 55) R3_9_N rfl rfl ⟨_, rfl, .inl ⟨_, rfl, gq hb14 rfl⟩⟩ (opv_move rfl rfl h12) ?_
          refine lk (dt := some 56) R3_9_N rfl rfl ⟨_, rfl, .inl ⟨_, rfl, gq hb14 rfl⟩⟩ (opv_move rfl rfl h0) ?_
          refine lk (dt := some 57) R3_9_N rfl rfl ⟨_, rfl, .inl ⟨_, rfl, gq hb14 rfl⟩⟩ (opv_lenS rfl rfl rfl underlying9 rfl) ?_
          refine lk (dt := some 58) R3_9_N rfl rfl ⟨_, rfl, .inl ⟨_, rfl, gq hb14 rfl⟩⟩ (opv_add rfl rfl rfl rfl rfl) ?_
          refine lk (dt := some 59) R3_9_N rfl rfl ⟨_, rfl, .inl ⟨_, rfl, gq hb14 rfl⟩⟩ (opv_move rfl rfl h9) ?_
          refine lk (dt := some 60) R3_9_N rfl rfl ⟨_, rfl, .inl ⟨_, rfl, gq hb14 rfl⟩⟩ (opv_add rfl rfl rfl rfl rfl) ?_
          refine lk (dt := some 61) R3_9_N rfl rfl ⟨_, rfl, .inl ⟨_, rfl, gq hb14 rfl⟩⟩ (opv_eqI rfl rfl rfl rfl rfl) ?_
          refine lk (dt := some 62) R3_9_N rfl rfl rfl (ov_pickT rfl rfl rfl rfl rfl hb14 rfl) ?_
          refine lk (dt := some 4) R3_9_N rfl rfl rfl (opv_assign rfl rfl rfl) ?_
          refine aops_nil ?_
          exact ago_retE E3_30 (r := (decide (r10.2.1 = (IntKind.i64.wrap ((IntKind.i64.wrap ((a_0.size : Int) + 1)) + r6.2.1))))) (ares_1 rfl (oneT rfl)) rfl H
        · replace H := cnd_f H hb14
          refine lk_skip (dt := some 55) R3_9_N rfl rfl ⟨_, rfl, .inl ⟨_, rfl, gq hb14 rfl⟩⟩ ?_
          refine lk_skip (dt := some 56) R3_9_N rfl rfl ⟨_, rfl, .inl ⟨_, rfl, gq hb14 rfl⟩⟩ ?_
          refine lk_skip (dt := some 57) R3_9_N rfl rfl ⟨_, rfl, .inl ⟨_, rfl, gq hb14 rfl⟩⟩ ?_
          refine lk_skip (dt := some 58) R3_9_N rfl rfl ⟨_, rfl, .inl ⟨_, rfl, gq hb14 rfl⟩⟩ ?_
          refine lk_skip (dt := some 59) R3_9_N rfl rfl ⟨_, rfl, .inl ⟨_, rfl, gq hb14 rfl⟩⟩ ?_
          refine lk_skip (dt := some 60) R3_9_N rfl rfl ⟨_, rfl, .inl ⟨_, rfl, gq hb14 rfl⟩⟩ ?_
          refine lk_skip (dt := some 61) R3_9_N rfl rfl ⟨_, rfl, .inl ⟨_, rfl, gq hb14 rfl⟩⟩ ?_
          refine lk (dt := some 62) R3_9_N rfl rfl rfl (ov_pickF rfl rfl rfl rfl rfl hb14 rfl) ?_
          refine lk (dt := some 4) R3_9_N rfl rfl rfl (opv_assign rfl rfl rfl) ?_
          refine aops_nil ?_
          exact ago_retE E3_30 (r := false) (ares_1 rfl (oneT rfl)) rfl H
      · replace H := cnd_f H hb13
        refine ago_skipE E3_31 ?_
        refine ago_seqE E3_32 ?_
        refine ago_regE E3_33 (l := [0]) rfl ?_
        refine lk (dt := some 14) R3_10_N rfl rfl rfl (opv_assign rfl rfl rfl) ?_
        refine aops_nil ?_
        refine ago_seqE E3_34 ?_
        refine ago_regE E3_35 (l := [0, 1, 2, 3, 4, 5, 6, 7]) rfl ?_
        refine lk (dt := some 63) R3_11_N rfl rfl rfl (opv_move rfl rfl rfl) ?_
        refine lk (dt := some 64) R3_11_N rfl rfl rfl (opv_move rfl rfl h5) ?_
        refine lk (dt := some 65) R3_11_N rfl rfl rfl (opv_move rfl rfl h5) ?_
        obtain ⟨q16, l17, c18, n15, hv19, hn20, H⟩ := H
        refine lk (dt := some 66) R3_11_N rfl rfl rfl (ov_len rfl rfl rfl underlying23 rfl hv19 hn20) ?_
        refine lk (dt := some 67) R3_11_N rfl rfl rfl (opv_sub rfl rfl rfl rfl rfl) ?_
        obtain ⟨v21, hq22, H⟩ := H
        refine lk (dt := some 68) R3_11_N rfl rfl rfl (ov_cutV rfl rfl underlying23 sz33 rfl (bndN _ _ _) (bndS rfl) hq22) ?_
        obtain ⟨v23, aw24, hq25, H⟩ := H
        refine lk (dt := some 69) R3_11_N rfl rfl rfl (ov_app rfl rfl rfl rfl underlying23 sz33 by33 underlying23 rfl z33 rfl (by decide) (by decide) rfl rfl hq25) ?_
        refine lk (dt := some 14) R3_11_N rfl rfl rfl (opv_assign rfl rfl rfl) ?_
        refine aops_nil ?_
        refine ago_seqE E3_36 ?_
        refine ago_cut (fun ρ => ρ 0 = .string a_0 ∧ ρ 8 = r6.1 ∧ ρ 11 = r10.1 ∧ ρ 13 = .int .i64 r10.2.2 ∧ ρ 14 = v23 ∧ True) ⟨h0, h8, h11, h13, rfl, trivial⟩ (fun ρ ⟨h0, h8, h11, h13, h14, _⟩ => ?_)
        refine ago_regE E3_37 (l := [0, 1, 2, 3, 4, 5, 6, 7]) rfl ?_
        refine lk (dt := some 70) R3_12_N rfl rfl rfl (opv_move rfl rfl h14) ?_
        refine lk (dt := some 71) R3_12_N rfl rfl rfl (opv_move rfl rfl h8) ?_
        refine lk (dt := some 72) R3_12_N rfl rfl rfl (opv_move rfl rfl h0) ?_
        refine lk (dt := some 73) R3_12_N rfl rfl rfl (opv_lenS rfl rfl rfl underlying9 rfl) ?_
        refine lk (dt := some 74) R3_12_N rfl rfl rfl (opv_add rfl rfl rfl rfl rfl) ?_
        refine lk_call (dt := some 75) R3_12_N rfl rfl rfl (opc_of rfl rfl is11 (ma_cons rfl (ma_cons rfl rfl))) H (fun _ _ h => ⟨rfl, h⟩) fun r26 aw27 H => ?_
        obtain ⟨v28, aw29, hq30, H⟩ := H
        refine lk (dt := some 76) R3_12_N rfl rfl rfl (ov_app rfl rfl rfl rfl underlying23 sz33 by33 underlying23 rfl z33 rfl (by decide) (by decide) rfl rfl hq30) ?_
        refine lk (dt := some 14) R3_12_N rfl rfl rfl (opv_assign rfl rfl rfl) ?_
        refine aops_nil ?_
        refine ago_seqE E3_38 ?_
        refine ago_regE E3_39 (l := [0, 1, 2, 3, 4, 5, 6, 7]) rfl ?_
        refine lk (dt := some 77) R3_13_N rfl rfl rfl (opv_move rfl rfl h13) ?_
        refine lk (dt := some 78) R3_13_N rfl rfl rfl (opv_eqI rfl rfl rfl rfl rfl) ?_
        refine lk (dt := some 79) R3_13_N rfl rfl rfl (opv_move rfl rfl rfl) ?_
        rcases Bool.eq_false_or_eq_true (decide (r10.2.2 = 0)) with hb31 | hb31
        · replace H := cnd_t H hb31
          refine lk (dt := some 80) R3_13_N rfl rfl ⟨_, rfl, .inl ⟨_, rfl, gq hb31 rfl⟩⟩ (opv_move rfl rfl h11) ?_
          refine lk (dt := some 81) R3_13_N rfl rfl ⟨_, rfl, .inl ⟨_, rfl, gq hb31 rfl⟩⟩ (opv_move rfl rfl rfl) ?_
          refine lk_call (dt := some 82) R3_13_N rfl rfl ⟨_, rfl, .inl ⟨_, rfl, gq hb31 rfl⟩⟩ (opc_of rfl rfl is12 (ma_cons rfl (ma_cons rfl rfl))) H (fun _ _ h => ⟨rfl, h⟩) fun r32 aw33 H => ?_
          refine lk (dt := some 83) R3_13_N rfl rfl rfl (ov_pickT rfl rfl rfl rfl rfl hb31 rfl) ?_
          refine lk (dt := some 4) R3_13_N rfl rfl rfl (opv_assign rfl rfl rfl) ?_
          refine aops_nil ?_
          exact ago_retE E3_40 (r := r32) (ares_1 rfl (oneT rfl)) rfl H
        · replace H := cnd_f H hb31
          refine lk_skip (dt := some 80) R3_13_N rfl rfl ⟨_, rfl, .inl ⟨_, rfl, gq hb31 rfl⟩⟩ ?_
          refine lk_skip (dt := some 81) R3_13_N rfl rfl ⟨_, rfl, .inl ⟨_, rfl, gq hb31 rfl⟩⟩ ?_
          refine lk_skip (dt := some 82) R3_13_N rfl rfl ⟨_, rfl, .inl ⟨_, rfl, gq hb31 rfl⟩⟩ ?_
          refine lk (dt := some 83) R3_13_N rfl rfl rfl (ov_pickF rfl rfl rfl rfl rfl hb31 rfl) ?_
          refine lk (dt := some 4) R3_13_N rfl rfl rfl (opv_assign rfl rfl rfl) ?_
          refine aops_nil ?_
          exact ago_retE E3_40 (r := false) (ares_1 rfl (oneT rfl)) rfl H
set_option maxHeartbeats 4000000 in
set_option maxRecDepth 100000 in
theorem S3_0_ok (Q : Bool → AW → Prop) (E : List PanicEntry → AW → Prop)  (ρ : Env) (a_0 : ByteArray) (b_1 : ByteArray) (aw : AW) (h0 : ρ 0 = .string a_0) (h1 : ρ 1 = .string b_1) (H : S3_0 Q E  a_0 b_1 aw) :
    AGo prog 84 [.code C3_0] ρ [] aw (RR prog f3 84 sh3 Q E) := by
  unfold S3_0 at H
  refine ago_seqE E3_0 ?_
  refine ago_regE E3_1 (l := [0]) rfl ?_
  refine lk (dt := some 4) R3_0_N rfl rfl rfl (opv_assign rfl rfl rfl) ?_
  refine aops_nil ?_
  refine ago_seqE E3_2 ?_
  refine ago_seqE E3_3 ?_
  refine ago_regE E3_4 (l := [0, 1, 2, 3, 4, 5, 6, 7, 8, 9]) rfl ?_
  refine lk_call (dt := some 15) R3_1_N rfl rfl rfl (opc_of rfl rfl is9 rfl) H (fun _ _ h => ⟨rfl, h⟩) fun r34 aw35 H => ?_
  refine lk (dt := some 16) R3_1_N rfl rfl rfl (opv_not rfl rfl rfl) ?_
  refine lk (dt := some 17) R3_1_N rfl rfl rfl (opv_move rfl rfl rfl) ?_
  rcases Bool.eq_false_or_eq_true (!r34) with hb36 | hb36
  · replace H := cnd_t H hb36
    refine lk_skip (dt := some 18) R3_1_N rfl rfl ⟨_, rfl, .inl ⟨_, rfl, gq hb36 rfl⟩⟩ ?_
    refine lk_skip (dt := some 19) R3_1_N rfl rfl ⟨_, rfl, .inl ⟨_, rfl, gq hb36 rfl⟩⟩ ?_
    refine lk_skip (dt := some 20) R3_1_N rfl rfl ⟨_, rfl, .inl ⟨_, rfl, gq hb36 rfl⟩⟩ ?_
    refine lk_skip (dt := some 21) R3_1_N rfl rfl ⟨_, rfl, .inl ⟨_, rfl, gq hb36 rfl⟩⟩ ?_
    refine lk_skip (dt := some 22) R3_1_N rfl rfl ⟨_, rfl, .inl ⟨_, rfl, gq hb36 rfl⟩⟩ ?_
    refine lk_skip (dt := some 23) R3_1_N rfl rfl ⟨_, rfl, .inl ⟨_, rfl, gq hb36 rfl⟩⟩ ?_
    refine lk (dt := some 24) R3_1_N rfl rfl rfl (ov_pickT rfl rfl rfl rfl rfl hb36 rfl) ?_
    refine aops_nil ?_
    exact S3_1_ok Q E  _ a_0 b_1 true aw35 h0 h1 rfl H
  · replace H := cnd_f H hb36
    refine lk (dt := some 18) R3_1_N rfl rfl ⟨_, rfl, .inl ⟨_, rfl, gq hb36 rfl⟩⟩ (opv_move rfl rfl h0) ?_
    refine lk (dt := some 19) R3_1_N rfl rfl ⟨_, rfl, .inl ⟨_, rfl, gq hb36 rfl⟩⟩ (opv_lenS rfl rfl rfl underlying9 rfl) ?_
    refine lk (dt := some 20) R3_1_N rfl rfl ⟨_, rfl, .inl ⟨_, rfl, gq hb36 rfl⟩⟩ (opv_move rfl rfl h1) ?_
    refine lk (dt := some 21) R3_1_N rfl rfl ⟨_, rfl, .inl ⟨_, rfl, gq hb36 rfl⟩⟩ (opv_lenS rfl rfl rfl underlying9 rfl) ?_
    refine lk (dt := some 22) R3_1_N rfl rfl ⟨_, rfl, .inl ⟨_, rfl, gq hb36 rfl⟩⟩ (opv_add rfl rfl rfl rfl rfl) ?_
    refine lk (dt := some 23) R3_1_N rfl rfl ⟨_, rfl, .inl ⟨_, rfl, gq hb36 rfl⟩⟩ (opv_gt rfl rfl rfl rfl rfl) ?_
    refine lk (dt := some 24) R3_1_N rfl rfl rfl (ov_pickF rfl rfl rfl rfl rfl hb36 rfl) ?_
    refine aops_nil ?_
    exact S3_1_ok Q E  _ a_0 b_1 (decide (1999 < (IntKind.i64.wrap ((a_0.size : Int) + (b_1.size : Int))))) aw35 h0 h1 rfl H
theorem F3_ok {Q : Bool → AW → Prop} {E : List PanicEntry → AW → Prop} (a_0 : ByteArray) (b_1 : ByteArray) (aw : AW) (H : S3_0 Q E a_0 b_1 aw) : CallP prog 3 [.string a_0, .string b_1] aw sh3 Q E :=
  callP_of func3 C3_is rfl (Nat.le_of_ble_eq_true rfl) (S3_0_ok Q E _ a_0 b_1 aw rfl rfl H)
/-! ### battledore/battledorelaw03.LexRemarks: function 4 -/
noncomputable def C4_0 : Code := bodyOf f4
theorem C4_is : f4.body = some C4_0 := by kernel_rfl
noncomputable def C4_1 : Code := cl C4_0
noncomputable def R4_0 : Array Oper := regOps C4_1
noncomputable def C4_2 : Code := cr C4_0
noncomputable def C4_3 : Code := cl C4_2
noncomputable def C4_4 : Code := cl C4_3
noncomputable def R4_1 : Array Oper := regOps C4_4
noncomputable def C4_5 : Code := cr C4_3
noncomputable def C4_6 : Code := cl C4_5
noncomputable def C4_7 : Code := cl C4_6
noncomputable def R4_2 : Array Oper := regOps C4_7
noncomputable def C4_8 : Code := cr C4_6
noncomputable def C4_9 : Code := cr C4_5
noncomputable def C4_10 : Code := cr C4_2
noncomputable def C4_11 : Code := cl C4_10
noncomputable def R4_3 : Array Oper := regOps C4_11
noncomputable def C4_12 : Code := cr C4_10
noncomputable def C4_13 : Code := cl C4_12
noncomputable def C4_14 : Code := cl C4_13
noncomputable def R4_4 : Array Oper := regOps C4_14
noncomputable def C4_15 : Code := cr C4_13
noncomputable def C4_16 : Code := cl C4_15
noncomputable def C4_17 : Code := cl C4_16
noncomputable def C4_18 : Code := cl C4_17
noncomputable def C4_19 : Code := cl C4_18
noncomputable def R4_5 : Array Oper := regOps C4_19
noncomputable def C4_20 : Code := cr C4_18
noncomputable def C4_21 : Code := cl C4_20
noncomputable def C4_22 : Code := cr C4_20
noncomputable def C4_23 : Code := cr C4_17
noncomputable def C4_24 : Code := cl C4_23
noncomputable def C4_25 : Code := cl C4_24
noncomputable def C4_26 : Code := cl C4_25
noncomputable def R4_7 : Array Oper := regOps C4_26
noncomputable def C4_27 : Code := cr C4_25
noncomputable def C4_28 : Code := cl C4_27
noncomputable def R4_8 : Array Oper := regOps C4_28
noncomputable def C4_29 : Code := cr C4_27
noncomputable def C4_30 : Code := cr C4_23
noncomputable def R4_6 : Array Oper := regOps C4_30
noncomputable def C4_31 : Code := cr C4_12
noncomputable def C4_32 : Code := cl C4_31
noncomputable def R4_9 : Array Oper := regOps C4_32
noncomputable def C4_33 : Code := cr C4_31
noncomputable def C4_34 : Code := cl C4_33
noncomputable def R4_10 : Array Oper := regOps C4_34
noncomputable def C4_35 : Code := cr C4_33
noncomputable def C4_36 : Code := cl C4_35
noncomputable def R4_11 : Array Oper := regOps C4_36
noncomputable def C4_37 : Code := cr C4_35
noncomputable def C4_38 : Code := cl C4_37
noncomputable def C4_39 : Code := cl C4_38
noncomputable def R4_12 : Array Oper := regOps C4_39
noncomputable def C4_40 : Code := cr C4_38
noncomputable def C4_41 : Code := cl C4_40
noncomputable def C4_42 : Code := cl C4_41
noncomputable def R4_13 : Array Oper := regOps C4_42
noncomputable def C4_43 : Code := cr C4_41
noncomputable def C4_44 : Code := cr C4_40
noncomputable def C4_45 : Code := cr C4_37
noncomputable def C4_46 : Code := cl C4_45
noncomputable def R4_14 : Array Oper := regOps C4_46
noncomputable def C4_47 : Code := cr C4_45
theorem R4_0_N : dstsOk 102 R4_0 = true := by decide +kernel
theorem E4_1 : C4_1 = .region 0 R4_0 false := rfl
theorem R4_1_N : dstsOk 102 R4_1 = true := by decide +kernel
theorem E4_4 : C4_4 = .region 1 R4_1 false := rfl
theorem R4_2_N : dstsOk 102 R4_2 = true := by decide +kernel
theorem E4_7 : C4_7 = .region 2 R4_2 false := rfl
theorem E4_8 : C4_8 = .ret := rfl
theorem E4_6 : C4_6 = .seq C4_7 C4_8 := rfl
theorem E4_9 : C4_9 = .skip := rfl
theorem E4_5 : C4_5 = .cond (.tmp 25) C4_6 C4_9 := rfl
theorem E4_3 : C4_3 = .seq C4_4 C4_5 := rfl
theorem R4_3_N : dstsOk 102 R4_3 = true := by decide +kernel
theorem E4_11 : C4_11 = .region 3 R4_3 false := rfl
theorem R4_4_N : dstsOk 102 R4_4 = true := by decide +kernel
theorem E4_14 : C4_14 = .region 4 R4_4 false := rfl
theorem R4_5_N : dstsOk 102 R4_5 = true := by decide +kernel
theorem E4_19 : C4_19 = .region 5 R4_5 false := rfl
theorem E4_21 : C4_21 = .skip := rfl
theorem E4_22 : C4_22 = .exit 0 := rfl
theorem E4_20 : C4_20 = .cond (.tmp 30) C4_21 C4_22 := rfl
theorem E4_18 : C4_18 = .seq C4_19 C4_20 := rfl
theorem R4_7_N : dstsOk 102 R4_7 = true := by decide +kernel
theorem E4_26 : C4_26 = .region 7 R4_7 false := rfl
theorem R4_8_N : dstsOk 102 R4_8 = true := by decide +kernel
theorem E4_28 : C4_28 = .region 8 R4_8 false := rfl
theorem E4_29 : C4_29 = .skip := rfl
theorem E4_27 : C4_27 = .cond (.tmp 51) C4_28 C4_29 := rfl
theorem E4_25 : C4_25 = .seq C4_26 C4_27 := rfl
theorem E4_24 : C4_24 = .block 1 C4_25 := rfl
theorem R4_6_N : dstsOk 102 R4_6 = true := by decide +kernel
theorem E4_30 : C4_30 = .region 6 R4_6 false := rfl
theorem E4_23 : C4_23 = .seq C4_24 C4_30 := rfl
theorem E4_17 : C4_17 = .seq C4_18 C4_23 := rfl
theorem E4_16 : C4_16 = .loop C4_17 := rfl
theorem E4_15 : C4_15 = .block 0 C4_16 := rfl
theorem E4_13 : C4_13 = .seq C4_14 C4_15 := rfl
theorem R4_9_N : dstsOk 102 R4_9 = true := by decide +kernel
theorem E4_32 : C4_32 = .region 9 R4_9 false := rfl
theorem R4_10_N : dstsOk 102 R4_10 = true := by decide +kernel
theorem E4_34 : C4_34 = .region 10 R4_10 false := rfl
theorem R4_11_N : dstsOk 102 R4_11 = true := by decide +kernel
theorem E4_36 : C4_36 = .region 11 R4_11 false := rfl
theorem R4_12_N : dstsOk 102 R4_12 = true := by decide +kernel
theorem E4_39 : C4_39 = .region 12 R4_12 false := rfl
theorem R4_13_N : dstsOk 102 R4_13 = true := by decide +kernel
theorem E4_42 : C4_42 = .region 13 R4_13 false := rfl
theorem E4_43 : C4_43 = .ret := rfl
theorem E4_41 : C4_41 = .seq C4_42 C4_43 := rfl
theorem E4_44 : C4_44 = .skip := rfl
theorem E4_40 : C4_40 = .cond (.tmp 91) C4_41 C4_44 := rfl
theorem E4_38 : C4_38 = .seq C4_39 C4_40 := rfl
theorem R4_14_N : dstsOk 102 R4_14 = true := by decide +kernel
theorem E4_46 : C4_46 = .region 14 R4_14 false := rfl
theorem E4_47 : C4_47 = .ret := rfl
theorem E4_45 : C4_45 = .seq C4_46 C4_47 := rfl
theorem E4_37 : C4_37 = .seq C4_38 C4_45 := rfl
theorem E4_35 : C4_35 = .seq C4_36 C4_37 := rfl
theorem E4_33 : C4_33 = .seq C4_34 C4_35 := rfl
theorem E4_31 : C4_31 = .seq C4_32 C4_33 := rfl
theorem E4_12 : C4_12 = .seq C4_13 C4_31 := rfl
theorem E4_10 : C4_10 = .seq C4_11 C4_12 := rfl
theorem E4_2 : C4_2 = .seq C4_3 C4_10 := rfl
theorem E4_0 : C4_0 = .seq C4_1 C4_2 := rfl
def S4_2 (Q : Bool → AW → Prop) (E : List PanicEntry → AW → Prop) (nx1 : ByteArray → Value → Value → Int → AW → Prop) (s_0 : ByteArray) (p_1 : Value) (r_5 : Value) (i_6 : Int) (aw : AW) : Prop :=
  nx1 s_0 p_1 r_5 (IntKind.i64.wrap (i_6 + 1)) aw
def S4_1s (Q : Bool → AW → Prop) (E : List PanicEntry → AW → Prop)  (nx1 : ByteArray → Value → Value → Int → AW → Prop) (s_0 : ByteArray) (p_1 : Value) (r_5 : Value) (i_6 : Int) (aw : AW) : Prop :=
  slen p_1 fun n1 =>
  cnd (decide (i_6 < n1)) (ixS p_1 i_6 1 fun p8 =>
  ldI .u8 aw p8 fun x20 =>
  cnd (!decide (x20 = 40)) (ixS p_1 i_6 1 fun p23 =>
  ldI .u8 aw p23 fun x35 =>
  cnd (!decide (x35 = 42)) (ixS p_1 i_6 1 fun p38 =>
  ldI .u8 aw p38 fun x50 =>
  cnd (!decide (x50 = 41)) (ixS p_1 i_6 1 fun p53 =>
  ldI .u8 aw p53 fun x65 =>
  alcS aw [.int .u8 x65] 5 1 1 fun p67 aw68 =>
  app aw68 5 1 1 r_5 p67 fun v71 aw72 =>
  S4_2 Q E nx1 s_0 p_1 v71 i_6 aw72) (S4_2 Q E nx1 s_0 p_1 r_5 i_6 aw)) (S4_2 Q E nx1 s_0 p_1 r_5 i_6 aw)) (S4_2 Q E nx1 s_0 p_1 r_5 i_6 aw)) (toS aw r_5 fun s76 =>
  (⟨#[40, 42, 32, 40, 42]⟩ : ByteArray).size + s76.size ≤ 2 ^ 62 ∧ ((⟨#[40, 42, 32, 40, 42]⟩ : ByteArray) ++ s76).size + (⟨#[42, 41, 32, 42, 41]⟩ : ByteArray).size ≤ 2 ^ 62 ∧ CallP prog 10 [.string s_0] aw sh10 (fun r84 aw85 =>
  (((⟨#[40, 42, 32, 40, 42]⟩ : ByteArray) ++ s76) ++ (⟨#[42, 41, 32, 42, 41]⟩ : ByteArray)).size + s_0.size ≤ 2 ^ 62 ∧ CallP prog 10 [.string ((((⟨#[40, 42, 32, 40, 42]⟩ : ByteArray) ++ s76) ++ (⟨#[42, 41, 32, 42, 41]⟩ : ByteArray)) ++ s_0)] aw85 sh10 (fun r87 aw88 =>
  cnd (!decide (r84.2.2 = r87.2.2)) (Q false aw88) (cnd (!decide (r84.2.2 = 0)) (cnd (!decide (r87.2.1 = (IntKind.i64.wrap (r84.2.1 + ((((⟨#[40, 42, 32, 40, 42]⟩ : ByteArray) ++ s76) ++ (⟨#[42, 41, 32, 42, 41]⟩ : ByteArray)).size : Int))))) (Q false aw88) (Q true aw88)) (CallP prog 11 [r84.1, .int .i64 ((((⟨#[40, 42, 32, 40, 42]⟩ : ByteArray) ++ s76) ++ (⟨#[42, 41, 32, 42, 41]⟩ : ByteArray)).size : Int)] aw88 sh11 (fun r94 aw95 =>
  CallP prog 12 [r87.1, r94] aw95 sh12 (fun r96 aw97 =>
  Q r96 aw97) E) E))) E) E)
def S4_1 (Q : Bool → AW → Prop) (E : List PanicEntry → AW → Prop)  : Nat → ByteArray → Value → Value → Int → AW → Prop
  | 0 => fun _ _ _ _ _ => False
  | n + 1 => S4_1s Q E  (S4_1 Q E  n)
def S4_0 (Q : Bool → AW → Prop) (E : List PanicEntry → AW → Prop)  (s_0 : ByteArray) (p_1 : Value) (aw : AW) : Prop :=
  CallP prog 9 [] aw sh9 (fun r98 aw99 =>
  cnd (!r98) (CallP prog 9 [] aw99 sh9 (fun r102 aw103 =>
  Q r102 aw103) E) (cnd (decide (900 < (s_0.size : Int))) (CallP prog 9 [] aw99 sh9 (fun r106 aw107 =>
  Q r106 aw107) E) (slen p_1 fun n108 =>
  cnd (decide (900 < n108)) (CallP prog 9 [] aw99 sh9 (fun r115 aw116 =>
  Q r115 aw116) E) (∃ n, S4_1 Q E  n s_0 p_1 (.slice none 0 0) 0 aw99)))) E
set_option maxHeartbeats 4000000 in
set_option maxRecDepth 100000 in
theorem S4_2_ok (Q : Bool → AW → Prop) (E : List PanicEntry → AW → Prop) (nx1 : ByteArray → Value → Value → Int → AW → Prop) (L1 : ∀ (ρ : Env) (s_0 : ByteArray) (p_1 : Value) (r_5 : Value) (i_6 : Int) (aw : AW) (h0 : ρ 0 = .string s_0) (h1 : ρ 1 = p_1) (h5 : ρ 5 = r_5) (h6 : ρ 6 = .int .i64 i_6), nx1 s_0 p_1 r_5 i_6 aw → AGo prog 102 [.code C4_17, .inLoop C4_17, .inBlock 0, .code C4_31] ρ [] aw (RR prog f4 102 sh4 Q E)) (ρ : Env) (s_0 : ByteArray) (p_1 : Value) (r_5 : Value) (i_6 : Int) (aw : AW) (h0 : ρ 0 = .string s_0) (h1 : ρ 1 = p_1) (h5 : ρ 5 = r_5) (h6 : ρ 6 = .int .i64 i_6) (H : S4_2 Q E nx1 s_0 p_1 r_5 i_6 aw) :
    AGo prog 102 [.inBlock 1, .code C4_30, .inLoop C4_17, .inBlock 0, .code C4_31] ρ [] aw (RR prog f4 102 sh4 Q E) := by
  unfold S4_2 at H
  refine ago_inBlock ?_
  refine ago_regE E4_30 (l := [0, 1, 2]) rfl ?_
  refine lk (dt := some 31) R4_6_N rfl rfl rfl (opv_move rfl rfl h6) ?_
  refine lk (dt := some 32) R4_6_N rfl rfl rfl (opv_add rfl rfl rfl rfl rfl) ?_
  refine lk (dt := some 6) R4_6_N rfl rfl rfl (opv_assign rfl rfl rfl) ?_
  refine aops_nil ?_
  refine ago_inLoop ?_
  exact L1 _ s_0 p_1 r_5 (IntKind.i64.wrap (i_6 + 1)) aw h0 h1 h5 rfl H
set_option maxHeartbeats 4000000 in
set_option maxRecDepth 100000 in
theorem S4_1s_ok (Q : Bool → AW → Prop) (E : List PanicEntry → AW → Prop)  (nx1 : ByteArray → Value → Value → Int → AW → Prop) (L1 : ∀ (ρ : Env) (s_0 : ByteArray) (p_1 : Value) (r_5 : Value) (i_6 : Int) (aw : AW) (h0 : ρ 0 = .string s_0) (h1 : ρ 1 = p_1) (h5 : ρ 5 = r_5) (h6 : ρ 6 = .int .i64 i_6), nx1 s_0 p_1 r_5 i_6 aw → AGo prog 102 [.code C4_17, .inLoop C4_17, .inBlock 0, .code C4_31] ρ [] aw (RR prog f4 102 sh4 Q E)) (ρ : Env) (s_0 : ByteArray) (p_1 : Value) (r_5 : Value) (i_6 : Int) (aw : AW) (h0 : ρ 0 = .string s_0) (h1 : ρ 1 = p_1) (h5 : ρ 5 = r_5) (h6 : ρ 6 = .int .i64 i_6) (H : S4_1s Q E  nx1 s_0 p_1 r_5 i_6 aw) :
    AGo prog 102 [.code C4_17, .inLoop C4_17, .inBlock 0, .code C4_31] ρ [] aw (RR prog f4 102 sh4 Q E) := by
  unfold S4_1s at H
  refine ago_seqE E4_17 ?_
  refine ago_seqE E4_18 ?_
  refine ago_regE E4_19 (l := [0, 1, 2, 3]) rfl ?_
  refine lk (dt := some 27) R4_5_N rfl rfl rfl (opv_move rfl rfl h6) ?_
  refine lk (dt := some 28) R4_5_N rfl rfl rfl (opv_move rfl rfl h1) ?_
  obtain ⟨q2, l3, c4, n1, hv5, hn6, H⟩ := H
  refine lk (dt := some 29) R4_5_N rfl rfl rfl (ov_len rfl rfl rfl underlying30 rfl hv5 hn6) ?_
  refine lk (dt := some 30) R4_5_N rfl rfl rfl (opv_lt rfl rfl rfl rfl rfl) ?_
  refine aops_nil ?_
  refine ago_condE  E4_20 rfl rfl (fun hb7 => ?_) (fun hb7 => ?_)
  · replace H := cnd_t H hb7
    refine ago_skipE E4_21 ?_
    refine ago_seqE E4_23 ?_
    refine ago_blockE E4_24 ?_
    refine ago_seqE E4_25 ?_
    refine ago_regE E4_26 (l := [0, 1, 2, 3, 4, 5, 6, 7, 8, 9, 10, 11, 12, 13, 14, 15, 16, 17, 18]) rfl ?_
    refine lk (dt := some 33) R4_7_N rfl rfl rfl (opv_move rfl rfl h1) ?_
    refine lk (dt := some 34) R4_7_N rfl rfl rfl (opv_move rfl rfl h6) ?_
    obtain ⟨b9, i10, l11, c12, p8, hp13, h014, hj15, hv16, H⟩ := H
    refine lk (dt := some 35) R4_7_N rfl rfl rfl (ov_ixS rfl rfl rfl underlying30 sz5 rfl rfl hp13 h014 hj15 hv16) ?_
    obtain ⟨b17, i18, x20, hp19, hg21, H⟩ := H
    refine lk (dt := some 36) R4_7_N rfl rfl rfl (ov_ldI rfl underlying5 rfl rfl hp19 hg21) ?_
    refine lk (dt := some 37) R4_7_N rfl rfl rfl (opv_neI rfl rfl rfl rfl rfl) ?_
    refine lk (dt := some 38) R4_7_N rfl rfl rfl (opv_move rfl rfl rfl) ?_
    rcases Bool.eq_false_or_eq_true (!decide (x20 = 40)) with hb22 | hb22
    · replace H := cnd_t H hb22
      refine lk (dt := some 39) R4_7_N rfl rfl ⟨_, rfl, .inl ⟨_, rfl, gq hb22 rfl⟩⟩ (opv_move rfl rfl h1) ?_
      refine lk (dt := some 40) R4_7_N rfl rfl ⟨_, rfl, .inl ⟨_, rfl, gq hb22 rfl⟩⟩ (opv_move rfl rfl h6) ?_
      obtain ⟨b24, i25, l26, c27, p23, hp28, h029, hj30, hv31, H⟩ := H
      refine lk (dt := some 41) R4_7_N rfl rfl ⟨_, rfl, .inl ⟨_, rfl, gq hb22 rfl⟩⟩ (ov_ixS rfl rfl rfl underlying30 sz5 rfl rfl hp28 h029 hj30 hv31) ?_
      obtain ⟨b32, i33, x35, hp34, hg36, H⟩ := H
      refine lk (dt := some 42) R4_7_N rfl rfl ⟨_, rfl, .inl ⟨_, rfl, gq hb22 rfl⟩⟩ (ov_ldI rfl underlying5 rfl rfl hp34 hg36) ?_
      refine lk (dt := some 43) R4_7_N rfl rfl ⟨_, rfl, .inl ⟨_, rfl, gq hb22 rfl⟩⟩ (opv_neI rfl rfl rfl rfl rfl) ?_
      refine lk (dt := some 44) R4_7_N rfl rfl rfl (ov_pickT rfl rfl rfl rfl rfl hb22 rfl) ?_
      refine lk (dt := some 45) R4_7_N rfl rfl rfl (opv_move rfl rfl rfl) ?_
      rcases Bool.eq_false_or_eq_true (!decide (x35 = 42)) with hb37 | hb37
      · replace H := cnd_t H hb37
        refine lk (dt := some 46) R4_7_N rfl rfl ⟨_, rfl, .inl ⟨_, rfl, gq hb37 rfl⟩⟩ (opv_move rfl rfl h1) ?_
        refine lk (dt := some 47) R4_7_N rfl rfl ⟨_, rfl, .inl ⟨_, rfl, gq hb37 rfl⟩⟩ (opv_move rfl rfl h6) ?_
        obtain ⟨b39, i40, l41, c42, p38, hp43, h044, hj45, hv46, H⟩ := H
        refine lk (dt := some 48) R4_7_N rfl rfl ⟨_, rfl, .inl ⟨_, rfl, gq hb37 rfl⟩⟩ (ov_ixS rfl rfl rfl underlying30 sz5 rfl rfl hp43 h044 hj45 hv46) ?_
        obtain ⟨b47, i48, x50, hp49, hg51, H⟩ := H
        refine lk (dt := some 49) R4_7_N rfl rfl ⟨_, rfl, .inl ⟨_, rfl, gq hb37 rfl⟩⟩ (ov_ldI rfl underlying5 rfl rfl hp49 hg51) ?_
        refine lk (dt := some 50) R4_7_N rfl rfl ⟨_, rfl, .inl ⟨_, rfl, gq hb37 rfl⟩⟩ (opv_neI rfl rfl rfl rfl rfl) ?_
        refine lk (dt := some 51) R4_7_N rfl rfl rfl (ov_pickT rfl rfl rfl rfl rfl hb37 rfl) ?_
        refine aops_nil ?_
        refine ago_condE  E4_27 rfl rfl (fun hb52 => ?_) (fun hb52 => ?_)
        · replace H := cnd_t H hb52
          refine ago_cut (fun ρ => ρ 0 = .string s_0 ∧ ρ 1 = p_1 ∧ ρ 5 = r_5 ∧ ρ 6 = .int .i64 i_6 ∧ True) ⟨h0, h1, h5, h6, trivial⟩ (fun ρ ⟨h0, h1, h5, h6, _⟩ => ?_)
          refine ago_regE E4_28 (l := [0, 1, 2, 3, 4, 5, 6, 7]) rfl ?_
          refine lk (dt := some 52) R4_8_N rfl rfl rfl (opv_move rfl rfl h5) ?_
          refine lk (dt := some 53) R4_8_N rfl rfl rfl (opv_move rfl rfl h1) ?_
          refine lk (dt := some 54) R4_8_N rfl rfl rfl (opv_move rfl rfl h6) ?_
          obtain ⟨b54, i55, l56, c57, p53, hp58, h059, hj60, hv61, H⟩ := H
          refine lk (dt := some 55) R4_8_N rfl rfl rfl (ov_ixS rfl rfl rfl underlying30 sz5 rfl rfl hp58 h059 hj60 hv61) ?_
          obtain ⟨b62, i63, x65, hp64, hg66, H⟩ := H
          refine lk (dt := some 56) R4_8_N rfl rfl rfl (ov_ldI rfl underlying5 rfl rfl hp64 hg66) ?_
          obtain ⟨p67, aw68, hp69, ha70, H⟩ := H
          refine lk (dt := some 57) R4_8_N rfl rfl rfl (ov_bsA (r := [.int .u8 x65]) (vs := [.int .u8 x65]) rfl rfl underlying30 sz5 z5 rfl rfl rfl rfl rfl (mp_cons rfl rfl) (.one rfl .nil) hp69 ha70) ?_
          obtain ⟨v71, aw72, hq73, H⟩ := H
          refine lk (dt := some 58) R4_8_N rfl rfl rfl (ov_app rfl rfl rfl rfl underlying30 sz5 by5 underlying30 rfl z5 rfl (by decide) (by decide) rfl rfl hq73) ?_
          refine lk (dt := some 5) R4_8_N rfl rfl rfl (opv_assign rfl rfl rfl) ?_
          refine aops_nil ?_
          exact S4_2_ok Q E nx1 L1 _ s_0 p_1 v71 i_6 aw72 h0 h1 rfl h6 H
        · replace H := cnd_f H hb52
          refine ago_skipE E4_29 ?_
          exact S4_2_ok Q E nx1 L1 _ s_0 p_1 r_5 i_6 aw h0 h1 h5 h6 H
      · replace H := cnd_f H hb37
        refine lk_skip (dt := some 46) R4_7_N rfl rfl ⟨_, rfl, .inl ⟨_, rfl, gq hb37 rfl⟩⟩ ?_
        refine lk_skip (dt := some 47) R4_7_N rfl rfl ⟨_, rfl, .inl ⟨_, rfl, gq hb37 rfl⟩⟩ ?_
        refine lk_skip (dt := some 48) R4_7_N rfl rfl ⟨_, rfl, .inl ⟨_, rfl, gq hb37 rfl⟩⟩ ?_
        refine lk_skip (dt := some 49) R4_7_N rfl rfl ⟨_, rfl, .inl ⟨_, rfl, gq hb37 rfl⟩⟩ ?_
        refine lk_skip (dt := some 50) R4_7_N rfl rfl ⟨_, rfl, .inl ⟨_, rfl, gq hb37 rfl⟩⟩ ?_
        refine lk (dt := some 51) R4_7_N rfl rfl rfl (ov_pickF rfl rfl rfl rfl rfl hb37 rfl) ?_
        refine aops_nil ?_
        refine ago_condE  E4_27 rfl rfl (fun h => ft h) (fun h => ?_)
        refine ago_skipE E4_29 ?_
        exact S4_2_ok Q E nx1 L1 _ s_0 p_1 r_5 i_6 aw h0 h1 h5 h6 H
    · replace H := cnd_f H hb22
      refine lk_skip (dt := some 39) R4_7_N rfl rfl ⟨_, rfl, .inl ⟨_, rfl, gq hb22 rfl⟩⟩ ?_
      refine lk_skip (dt := some 40) R4_7_N rfl rfl ⟨_, rfl, .inl ⟨_, rfl, gq hb22 rfl⟩⟩ ?_
      refine lk_skip (dt := some 41) R4_7_N rfl rfl ⟨_, rfl, .inl ⟨_, rfl, gq hb22 rfl⟩⟩ ?_
      refine lk_skip (dt := some 42) R4_7_N rfl rfl ⟨_, rfl, .inl ⟨_, rfl, gq hb22 rfl⟩⟩ ?_
      refine lk_skip (dt := some 43) R4_7_N rfl rfl ⟨_, rfl, .inl ⟨_, rfl, gq hb22 rfl⟩⟩ ?_
      refine lk (dt := some 44) R4_7_N rfl rfl rfl (ov_pickF rfl rfl rfl rfl rfl hb22 rfl) ?_
      refine lk (dt := some 45) R4_7_N rfl rfl rfl (opv_move rfl rfl rfl) ?_
      refine lk_skip (dt := some 46) R4_7_N rfl rfl ⟨_, rfl, .inl ⟨_, rfl, gq rfl rfl⟩⟩ ?_
      refine lk_skip (dt := some 47) R4_7_N rfl rfl ⟨_, rfl, .inl ⟨_, rfl, gq rfl rfl⟩⟩ ?_
      refine lk_skip (dt := some 48) R4_7_N rfl rfl ⟨_, rfl, .inl ⟨_, rfl, gq rfl rfl⟩⟩ ?_
      refine lk_skip (dt := some 49) R4_7_N rfl rfl ⟨_, rfl, .inl ⟨_, rfl, gq rfl rfl⟩⟩ ?_
      refine lk_skip (dt := some 50) R4_7_N rfl rfl ⟨_, rfl, .inl ⟨_, rfl, gq rfl rfl⟩⟩ ?_
      refine lk (dt := some 51) R4_7_N rfl rfl rfl (ov_pickF rfl rfl rfl rfl rfl rfl rfl) ?_
      refine aops_nil ?_
      refine ago_condE  E4_27 rfl rfl (fun h => ft h) (fun h => ?_)
      refine ago_skipE E4_29 ?_
      exact S4_2_ok Q E nx1 L1 _ s_0 p_1 r_5 i_6 aw h0 h1 h5 h6 H
  · replace H := cnd_f H hb7
    refine ago_exitE E4_22 rfl ?_
    refine ago_seqE E4_31 ?_
    refine ago_regE E4_32 (l := [0, 1, 2, 3, 4]) rfl ?_
    refine lk (dt := some 59) R4_9_N rfl rfl rfl (opv_move rfl rfl h5) ?_
    obtain ⟨l81, n80, s76, hs77, hq78, hv79, H⟩ := H
    refine lk (dt := some 60) R4_9_N rfl rfl rfl (ov_toS rfl rfl underlying30 underlying9 underlying5 rfl hs77 hq78 hv79) ?_
    obtain ⟨hz82, H⟩ := H
    refine lk (dt := some 61) R4_9_N rfl rfl rfl (opv_cat rfl rfl rfl rfl rfl hz82) ?_
    obtain ⟨hz83, H⟩ := H
    refine lk (dt := some 62) R4_9_N rfl rfl rfl (opv_cat rfl rfl rfl rfl rfl hz83) ?_
    refine lk (dt := some 7) R4_9_N rfl rfl rfl (opv_assign rfl rfl rfl) ?_
    refine aops_nil ?_
    refine ago_seqE E4_33 ?_
    refine ago_regE E4_34 (l := [0, 1, 2, 3, 4, 5, 6, 7, 8]) rfl ?_
    refine lk (dt := some 64) R4_10_N rfl rfl rfl (opv_move rfl rfl h0) ?_
    refine lk_call (dt := some 65) R4_10_N rfl rfl rfl (opc_of rfl rfl is10 (ma_cons rfl rfl)) H (fun _ _ h => ⟨rfl, h⟩) fun r84 aw85 H => ?_
    refine lk (dt := some 63) R4_10_N rfl rfl rfl (opv_move rfl rfl rfl) ?_
    refine lk (dt := some 66) R4_10_N rfl rfl rfl (opv_extract rfl rfl rfl rfl) ?_
    refine lk (dt := some 67) R4_10_N rfl rfl rfl (opv_extract rfl rfl rfl rfl) ?_
    refine lk (dt := some 68) R4_10_N rfl rfl rfl (opv_extract rfl rfl rfl rfl) ?_
    refine lk (dt := some 8) R4_10_N rfl rfl rfl (opv_assign rfl rfl rfl) ?_
    refine lk (dt := some 9) R4_10_N rfl rfl rfl (opv_assign rfl rfl rfl) ?_
    refine lk (dt := some 10) R4_10_N rfl rfl rfl (opv_assign rfl rfl rfl) ?_
    refine aops_nil ?_
    refine ago_seqE E4_35 ?_
    refine ago_cut (fun ρ => ρ 0 = .string s_0 ∧ ρ 7 = .string (((⟨#[40, 42, 32, 40, 42]⟩ : ByteArray) ++ s76) ++ (⟨#[42, 41, 32, 42, 41]⟩ : ByteArray)) ∧ ρ 8 = r84.1 ∧ ρ 9 = .int .i64 r84.2.1 ∧ ρ 10 = .int .i64 r84.2.2 ∧ True) ⟨h0, rfl, rfl, rfl, rfl, trivial⟩ (fun ρ ⟨h0, h7, h8, h9, h10, _⟩ => ?_)
    refine ago_regE E4_36 (l := [0, 1, 2, 3, 4, 5, 6, 7, 8, 9, 10]) rfl ?_
    refine lk (dt := some 70) R4_11_N rfl rfl rfl (opv_move rfl rfl h7) ?_
    refine lk (dt := some 71) R4_11_N rfl rfl rfl (opv_move rfl rfl h0) ?_
    obtain ⟨hz86, H⟩ := H
    refine lk (dt := some 72) R4_11_N rfl rfl rfl (opv_cat rfl rfl rfl rfl rfl hz86) ?_
    refine lk_call (dt := some 73) R4_11_N rfl rfl rfl (opc_of rfl rfl is10 (ma_cons rfl rfl)) H (fun _ _ h => ⟨rfl, h⟩) fun r87 aw88 H => ?_
    refine lk (dt := some 69) R4_11_N rfl rfl rfl (opv_move rfl rfl rfl) ?_
    refine lk (dt := some 74) R4_11_N rfl rfl rfl (opv_extract rfl rfl rfl rfl) ?_
    refine lk (dt := some 75) R4_11_N rfl rfl rfl (opv_extract rfl rfl rfl rfl) ?_
    refine lk (dt := some 76) R4_11_N rfl rfl rfl (opv_extract rfl rfl rfl rfl) ?_
    refine lk (dt := some 11) R4_11_N rfl rfl rfl (opv_assign rfl rfl rfl) ?_
    refine lk (dt := some 12) R4_11_N rfl rfl rfl (opv_assign rfl rfl rfl) ?_
    refine lk (dt := some 13) R4_11_N rfl rfl rfl (opv_assign rfl rfl rfl) ?_
    refine aops_nil ?_
    refine ago_seqE E4_37 ?_
    refine ago_seqE E4_38 ?_
    refine ago_regE E4_39 (l := [0, 1, 2, 3, 4, 5, 6, 7, 8, 9, 10, 11, 12, 13, 14]) rfl ?_
    refine lk (dt := some 77) R4_12_N rfl rfl rfl (opv_move rfl rfl h10) ?_
    refine lk (dt := some 78) R4_12_N rfl rfl rfl (opv_move rfl rfl rfl) ?_
    refine lk (dt := some 79) R4_12_N rfl rfl rfl (opv_neI rfl rfl rfl rfl rfl) ?_
    refine lk (dt := some 80) R4_12_N rfl rfl rfl (opv_move rfl rfl rfl) ?_
    rcases Bool.eq_false_or_eq_true (!decide (r84.2.2 = r87.2.2)) with hb89 | hb89
    · replace H := cnd_t H hb89
      refine lk_skip (dt := some 81) R4_12_N rfl rfl ⟨_, rfl, .inl ⟨_, rfl, gq hb89 rfl⟩⟩ ?_
      refine lk_skip (dt := some 82) R4_12_N rfl rfl ⟨_, rfl, .inl ⟨_, rfl, gq hb89 rfl⟩⟩ ?_
      refine lk_skip (dt := some 83) R4_12_N rfl rfl ⟨_, rfl, .inl ⟨_, rfl, gq hb89 rfl⟩⟩ ?_
      refine lk_skip (dt := some 84) R4_12_N rfl rfl ⟨_, rfl, .inr ⟨rfl, rfl⟩⟩ ?_
      refine lk_skip (dt := some 85) R4_12_N rfl rfl ⟨_, rfl, .inr ⟨rfl, rfl⟩⟩ ?_
      refine lk_skip (dt := some 86) R4_12_N rfl rfl ⟨_, rfl, .inr ⟨rfl, rfl⟩⟩ ?_
      refine lk_skip (dt := some 87) R4_12_N rfl rfl ⟨_, rfl, .inr ⟨rfl, rfl⟩⟩ ?_
      refine lk_skip (dt := some 88) R4_12_N rfl rfl ⟨_, rfl, .inr ⟨rfl, rfl⟩⟩ ?_
      refine lk_skip (dt := some 89) R4_12_N rfl rfl ⟨_, rfl, .inr ⟨rfl, rfl⟩⟩ ?_
      refine lk_skip (dt := some 90) R4_12_N rfl rfl ⟨_, rfl, .inl ⟨_, rfl, gq hb89 rfl⟩⟩ ?_
      refine lk (dt := some 91) R4_12_N rfl rfl rfl (ov_pickT rfl rfl rfl rfl rfl hb89 rfl) ?_
      refine aops_nil ?_
      refine ago_condE  E4_40 rfl rfl (fun h => ?_) (fun h => tf h)
      refine ago_seqE E4_41 ?_
      refine ago_regE E4_42 (l := [0]) rfl ?_
      refine lk (dt := some 4) R4_13_N rfl rfl rfl (opv_assign rfl rfl rfl) ?_
      refine aops_nil ?_
      exact ago_retE E4_43 (r := false) (ares_1 rfl (oneT rfl)) rfl H
    · replace H := cnd_f H hb89
      refine lk (dt := some 81) R4_12_N rfl rfl ⟨_, rfl, .inl ⟨_, rfl, gq hb89 rfl⟩⟩ (opv_move rfl rfl h10) ?_
      refine lk (dt := some 82) R4_12_N rfl rfl ⟨_, rfl, .inl ⟨_, rfl, gq hb89 rfl⟩⟩ (opv_neI rfl rfl rfl rfl rfl) ?_
      refine lk (dt := some 83) R4_12_N rfl rfl ⟨_, rfl, .inl ⟨_, rfl, gq hb89 rfl⟩⟩ (opv_move rfl rfl rfl) ?_
      rcases Bool.eq_false_or_eq_true (!decide (r84.2.2 = 0)) with hb91 | hb91
      · replace H := cnd_t H hb91
        refine lk (dt := some 84) R4_12_N rfl rfl ⟨_, rfl, .inl ⟨_, rfl, gq hb91 rfl⟩⟩ (opv_move rfl rfl rfl) ?_
        refine lk (dt := some 85) R4_12_N rfl rfl ⟨_, rfl, .inl ⟨_, rfl, gq hb91 rfl⟩⟩ (opv_move rfl rfl h9) ?_
        refine lk (dt := some 86) R4_12_N rfl rfl ⟨_, rfl, .inl ⟨_, rfl, gq hb91 rfl⟩⟩ (opv_move rfl rfl h7) ?_
        refine lk (dt := some 87) R4_12_N rfl rfl ⟨_, rfl, .inl ⟨_, rfl, gq hb91 rfl⟩⟩ (opv_lenS rfl rfl rfl underlying9 rfl) ?_
        refine lk (dt := some 88) R4_12_N rfl rfl ⟨_, rfl, .inl ⟨_, rfl, gq hb91 rfl⟩⟩ (opv_add rfl rfl rfl rfl rfl) ?_
        refine lk (dt := some 89) R4_12_N rfl rfl ⟨_, rfl, .inl ⟨_, rfl, gq hb91 rfl⟩⟩ (opv_neI rfl rfl rfl rfl rfl) ?_
        refine lk (dt := some 90) R4_12_N rfl rfl ⟨_, rfl, .inl ⟨_, rfl, gq hb89 rfl⟩⟩ (ov_pickT rfl rfl rfl rfl rfl hb91 rfl) ?_
        refine lk (dt := some 91) R4_12_N rfl rfl rfl (ov_pickF rfl rfl rfl rfl rfl hb89 rfl) ?_
        refine aops_nil ?_
        refine ago_condE  E4_40 rfl rfl (fun hb92 => ?_) (fun hb92 => ?_)
        · replace H := cnd_t H hb92
          refine ago_seqE E4_41 ?_
          refine ago_regE E4_42 (l := [0]) rfl ?_
          refine lk (dt := some 4) R4_13_N rfl rfl rfl (opv_assign rfl rfl rfl) ?_
          refine aops_nil ?_
          exact ago_retE E4_43 (r := false) (ares_1 rfl (oneT rfl)) rfl H
        · replace H := cnd_f H hb92
          refine ago_skipE E4_44 ?_
          refine ago_seqE E4_45 ?_
          refine ago_cut (fun ρ => ρ 7 = .string (((⟨#[40, 42, 32, 40, 42]⟩ : ByteArray) ++ s76) ++ (⟨#[42, 41, 32, 42, 41]⟩ : ByteArray)) ∧ ρ 8 = r84.1 ∧ ρ 10 = .int .i64 r84.2.2 ∧ ρ 11 = r87.1 ∧ True) ⟨h7, h8, h10, rfl, trivial⟩ (fun ρ ⟨h7, h8, h10, h11, _⟩ => ?_)
          refine ago_regE E4_46 (l := [0, 1, 2, 3, 4, 5, 6, 7, 8, 9, 10]) rfl ?_
          refine lk (dt := some 92) R4_14_N rfl rfl rfl (opv_move rfl rfl h10) ?_
          refine lk (dt := some 93) R4_14_N rfl rfl rfl (opv_neI rfl rfl rfl rfl rfl) ?_
          refine lk (dt := some 94) R4_14_N rfl rfl rfl (opv_move rfl rfl rfl) ?_
          refine lk_skip (dt := some 95) R4_14_N rfl rfl ⟨_, rfl, .inl ⟨_, rfl, gq hb91 rfl⟩⟩ ?_
          refine lk_skip (dt := some 96) R4_14_N rfl rfl ⟨_, rfl, .inl ⟨_, rfl, gq hb91 rfl⟩⟩ ?_
          refine lk_skip (dt := some 97) R4_14_N rfl rfl ⟨_, rfl, .inl ⟨_, rfl, gq hb91 rfl⟩⟩ ?_
          refine lk_skip (dt := some 98) R4_14_N rfl rfl ⟨_, rfl, .inl ⟨_, rfl, gq hb91 rfl⟩⟩ ?_
          refine lk_skip (dt := some 99) R4_14_N rfl rfl ⟨_, rfl, .inl ⟨_, rfl, gq hb91 rfl⟩⟩ ?_
          refine lk_skip (dt := some 100) R4_14_N rfl rfl ⟨_, rfl, .inl ⟨_, rfl, gq hb91 rfl⟩⟩ ?_
          refine lk (dt := some 101) R4_14_N rfl rfl rfl (ov_pickT rfl rfl rfl rfl rfl hb91 rfl) ?_
          refine lk (dt := some 4) R4_14_N rfl rfl rfl (opv_assign rfl rfl rfl) ?_
          refine aops_nil ?_
          exact ago_retE E4_47 (r := true) (ares_1 rfl (oneT rfl)) rfl H
      · replace H := cnd_f H hb91
        refine lk_skip (dt := some 84) R4_12_N rfl rfl ⟨_, rfl, .inl ⟨_, rfl, gq hb91 rfl⟩⟩ ?_
        refine lk_skip (dt := some 85) R4_12_N rfl rfl ⟨_, rfl, .inl ⟨_, rfl, gq hb91 rfl⟩⟩ ?_
        refine lk_skip (dt := some 86) R4_12_N rfl rfl ⟨_, rfl, .inl ⟨_, rfl, gq hb91 rfl⟩⟩ ?_
        refine lk_skip (dt := some 87) R4_12_N rfl rfl ⟨_, rfl, .inl ⟨_, rfl, gq hb91 rfl⟩⟩ ?_
        refine lk_skip (dt := some 88) R4_12_N rfl rfl ⟨_, rfl, .inl ⟨_, rfl, gq hb91 rfl⟩⟩ ?_
        refine lk_skip (dt := some 89) R4_12_N rfl rfl ⟨_, rfl, .inl ⟨_, rfl, gq hb91 rfl⟩⟩ ?_
        refine lk (dt := some 90) R4_12_N rfl rfl ⟨_, rfl, .inl ⟨_, rfl, gq hb89 rfl⟩⟩ (ov_pickF rfl rfl rfl rfl rfl hb91 rfl) ?_
        refine lk (dt := some 91) R4_12_N rfl rfl rfl (ov_pickF rfl rfl rfl rfl rfl hb89 rfl) ?_
        refine aops_nil ?_
        refine ago_condE  E4_40 rfl rfl (fun h => ft h) (fun h => ?_)
        refine ago_skipE E4_44 ?_
        refine ago_seqE E4_45 ?_
        refine ago_cut (fun ρ => ρ 7 = .string (((⟨#[40, 42, 32, 40, 42]⟩ : ByteArray) ++ s76) ++ (⟨#[42, 41, 32, 42, 41]⟩ : ByteArray)) ∧ ρ 8 = r84.1 ∧ ρ 10 = .int .i64 r84.2.2 ∧ ρ 11 = r87.1 ∧ True) ⟨h7, h8, h10, rfl, trivial⟩ (fun ρ ⟨h7, h8, h10, h11, _⟩ => ?_)
        refine ago_regE E4_46 (l := [0, 1, 2, 3, 4, 5, 6, 7, 8, 9, 10]) rfl ?_
        refine lk (dt := some 92) R4_14_N rfl rfl rfl (opv_move rfl rfl h10) ?_
        refine lk (dt := some 93) R4_14_N rfl rfl rfl (opv_neI rfl rfl rfl rfl rfl) ?_
        refine lk (dt := some 94) R4_14_N rfl rfl rfl (opv_move rfl rfl rfl) ?_
        refine lk (dt := some 95) R4_14_N rfl rfl ⟨_, rfl, .inl ⟨_, rfl, gq hb91 rfl⟩⟩ (opv_move rfl rfl h11) ?_
        refine lk (dt := some 96) R4_14_N rfl rfl ⟨_, rfl, .inl ⟨_, rfl, gq hb91 rfl⟩⟩ (opv_move rfl rfl h8) ?_
        refine lk (dt := some 97) R4_14_N rfl rfl ⟨_, rfl, .inl ⟨_, rfl, gq hb91 rfl⟩⟩ (opv_move rfl rfl h7) ?_
        refine lk (dt := some 98) R4_14_N rfl rfl ⟨_, rfl, .inl ⟨_, rfl, gq hb91 rfl⟩⟩ (opv_lenS rfl rfl rfl underlying9 rfl) ?_
        refine lk_call (dt := some 99) R4_14_N rfl rfl ⟨_, rfl, .inl ⟨_, rfl, gq hb91 rfl⟩⟩ (opc_of rfl rfl is11 (ma_cons rfl (ma_cons rfl rfl))) H (fun _ _ h => ⟨rfl, h⟩) fun r94 aw95 H => ?_
        refine lk_call (dt := some 100) R4_14_N rfl rfl ⟨_, rfl, .inl ⟨_, rfl, gq hb91 rfl⟩⟩ (opc_of rfl rfl is12 (ma_cons rfl (ma_cons rfl rfl))) H (fun _ _ h => ⟨rfl, h⟩) fun r96 aw97 H => ?_
        refine lk (dt := some 101) R4_14_N rfl rfl rfl (ov_pickF rfl rfl rfl rfl rfl hb91 rfl) ?_
        refine lk (dt := some 4) R4_14_N rfl rfl rfl (opv_assign rfl rfl rfl) ?_
        refine aops_nil ?_
        exact ago_retE E4_47 (r := r96) (ares_1 rfl (oneT rfl)) rfl H
theorem S4_1_ok (Q : Bool → AW → Prop) (E : List PanicEntry → AW → Prop)  : ∀ (n : Nat) (ρ : Env) (s_0 : ByteArray) (p_1 : Value) (r_5 : Value) (i_6 : Int) (aw : AW) (h0 : ρ 0 = .string s_0) (h1 : ρ 1 = p_1) (h5 : ρ 5 = r_5) (h6 : ρ 6 = .int .i64 i_6), S4_1 Q E  n s_0 p_1 r_5 i_6 aw →
    AGo prog 102 [.code C4_17, .inLoop C4_17, .inBlock 0, .code C4_31] ρ [] aw (RR prog f4 102 sh4 Q E)
  | 0, _, _, _, _, _, _, _, _, _, _ => fun H => H.elim
  | n + 1, ρ, s_0, p_1, r_5, i_6, aw, h0, h1, h5, h6 => fun H => S4_1s_ok Q E  _ (S4_1_ok Q E  n) ρ s_0 p_1 r_5 i_6 aw h0 h1 h5 h6 H
set_option maxHeartbeats 4000000 in
set_option maxRecDepth 100000 in
theorem S4_0_ok (Q : Bool → AW → Prop) (E : List PanicEntry → AW → Prop)  (ρ : Env) (s_0 : ByteArray) (p_1 : Value) (aw : AW) (h0 : ρ 0 = .string s_0) (h1 : ρ 1 = p_1) (H : S4_0 Q E  s_0 p_1 aw) :
    AGo prog 102 [.code C4_0] ρ [] aw (RR prog f4 102 sh4 Q E) := by
  unfold S4_0 at H
  refine ago_seqE E4_0 ?_
  refine ago_regE E4_1 (l := [0]) rfl ?_
  refine lk (dt := some 4) R4_0_N rfl rfl rfl (opv_assign rfl rfl rfl) ?_
  refine aops_nil ?_
  refine ago_seqE E4_2 ?_
  refine ago_seqE E4_3 ?_
  refine ago_regE E4_4 (l := [0, 1, 2, 3, 4, 5, 6, 7, 8, 9, 10, 11]) rfl ?_
  refine lk_call (dt := some 14) R4_1_N rfl rfl rfl (opc_of rfl rfl is9 rfl) H (fun _ _ h => ⟨rfl, h⟩) fun r98 aw99 H => ?_
  refine lk (dt := some 15) R4_1_N rfl rfl rfl (opv_not rfl rfl rfl) ?_
  refine lk (dt := some 16) R4_1_N rfl rfl rfl (opv_move rfl rfl rfl) ?_
  rcases Bool.eq_false_or_eq_true (!r98) with hb100 | hb100
  · replace H := cnd_t H hb100
    refine lk_skip (dt := some 17) R4_1_N rfl rfl ⟨_, rfl, .inl ⟨_, rfl, gq hb100 rfl⟩⟩ ?_
    refine lk_skip (dt := some 18) R4_1_N rfl rfl ⟨_, rfl, .inl ⟨_, rfl, gq hb100 rfl⟩⟩ ?_
    refine lk_skip (dt := some 19) R4_1_N rfl rfl ⟨_, rfl, .inl ⟨_, rfl, gq hb100 rfl⟩⟩ ?_
    refine lk (dt := some 20) R4_1_N rfl rfl rfl (ov_pickT rfl rfl rfl rfl rfl hb100 rfl) ?_
    refine lk (dt := some 21) R4_1_N rfl rfl rfl (opv_move rfl rfl rfl) ?_
    refine lk_skip (dt := some 22) R4_1_N rfl rfl ⟨_, rfl, .inl ⟨_, rfl, gq rfl rfl⟩⟩ ?_
    refine lk_skip (dt := some 23) R4_1_N rfl rfl ⟨_, rfl, .inl ⟨_, rfl, gq rfl rfl⟩⟩ ?_
    refine lk_skip (dt := some 24) R4_1_N rfl rfl ⟨_, rfl, .inl ⟨_, rfl, gq rfl rfl⟩⟩ ?_
    refine lk (dt := some 25) R4_1_N rfl rfl rfl (ov_pickT rfl rfl rfl rfl rfl rfl rfl) ?_
    refine aops_nil ?_
    refine ago_condE  E4_5 rfl rfl (fun h => ?_) (fun h => tf h)
    refine ago_seqE E4_6 ?_
    refine ago_regE E4_7 (l := [0, 1]) rfl ?_
    refine lk_call (dt := some 26) R4_2_N rfl rfl rfl (opc_of rfl rfl is9 rfl) H (fun _ _ h => ⟨rfl, h⟩) fun r102 aw103 H => ?_
    refine lk (dt := some 4) R4_2_N rfl rfl rfl (opv_assign rfl rfl rfl) ?_
    refine aops_nil ?_
    exact ago_retE E4_8 (r := r102) (ares_1 rfl (oneT rfl)) rfl H
  · replace H := cnd_f H hb100
    refine lk (dt := some 17) R4_1_N rfl rfl ⟨_, rfl, .inl ⟨_, rfl, gq hb100 rfl⟩⟩ (opv_move rfl rfl h0) ?_
    refine lk (dt := some 18) R4_1_N rfl rfl ⟨_, rfl, .inl ⟨_, rfl, gq hb100 rfl⟩⟩ (opv_lenS rfl rfl rfl underlying9 rfl) ?_
    refine lk (dt := some 19) R4_1_N rfl rfl ⟨_, rfl, .inl ⟨_, rfl, gq hb100 rfl⟩⟩ (opv_gt rfl rfl rfl rfl rfl) ?_
    refine lk (dt := some 20) R4_1_N rfl rfl rfl (ov_pickF rfl rfl rfl rfl rfl hb100 rfl) ?_
    refine lk (dt := some 21) R4_1_N rfl rfl rfl (opv_move rfl rfl rfl) ?_
    rcases Bool.eq_false_or_eq_true (decide (900 < (s_0.size : Int))) with hb104 | hb104
    · replace H := cnd_t H hb104
      refine lk_skip (dt := some 22) R4_1_N rfl rfl ⟨_, rfl, .inl ⟨_, rfl, gq hb104 rfl⟩⟩ ?_
      refine lk_skip (dt := some 23) R4_1_N rfl rfl ⟨_, rfl, .inl ⟨_, rfl, gq hb104 rfl⟩⟩ ?_
      refine lk_skip (dt := some 24) R4_1_N rfl rfl ⟨_, rfl, .inl ⟨_, rfl, gq hb104 rfl⟩⟩ ?_
      refine lk (dt := some 25) R4_1_N rfl rfl rfl (ov_pickT rfl rfl rfl rfl rfl hb104 rfl) ?_
      refine aops_nil ?_
      refine ago_condE  E4_5 rfl rfl (fun h => ?_) (fun h => tf h)
      refine ago_seqE E4_6 ?_
      refine ago_regE E4_7 (l := [0, 1]) rfl ?_
      refine lk_call (dt := some 26) R4_2_N rfl rfl rfl (opc_of rfl rfl is9 rfl) H (fun _ _ h => ⟨rfl, h⟩) fun r106 aw107 H => ?_
      refine lk (dt := some 4) R4_2_N rfl rfl rfl (opv_assign rfl rfl rfl) ?_
      refine aops_nil ?_
      exact ago_retE E4_8 (r := r106) (ares_1 rfl (oneT rfl)) rfl H
    · replace H := cnd_f H hb104
      refine lk (dt := some 22) R4_1_N rfl rfl ⟨_, rfl, .inl ⟨_, rfl, gq hb104 rfl⟩⟩ (opv_move rfl rfl h1) ?_
      obtain ⟨q109, l110, c111, n108, hv112, hn113, H⟩ := H
      refine lk (dt := some 23) R4_1_N rfl rfl ⟨_, rfl, .inl ⟨_, rfl, gq hb104 rfl⟩⟩ (ov_len rfl rfl rfl underlying30 rfl hv112 hn113) ?_
      refine lk (dt := some 24) R4_1_N rfl rfl ⟨_, rfl, .inl ⟨_, rfl, gq hb104 rfl⟩⟩ (opv_gt rfl rfl rfl rfl rfl) ?_
      refine lk (dt := some 25) R4_1_N rfl rfl rfl (ov_pickF rfl rfl rfl rfl rfl hb104 rfl) ?_
      refine aops_nil ?_
      refine ago_condE  E4_5 rfl rfl (fun hb114 => ?_) (fun hb114 => ?_)
      · replace H := cnd_t H hb114
        refine ago_seqE E4_6 ?_
        refine ago_regE E4_7 (l := [0, 1]) rfl ?_
        refine lk_call (dt := some 26) R4_2_N rfl rfl rfl (opc_of rfl rfl is9 rfl) H (fun _ _ h => ⟨rfl, h⟩) fun r115 aw116 H => ?_
        refine lk (dt := some 4) R4_2_N rfl rfl rfl (opv_assign rfl rfl rfl) ?_
        refine aops_nil ?_
        exact ago_retE E4_8 (r := r115) (ares_1 rfl (oneT rfl)) rfl H
      · replace H := cnd_f H hb114
        refine ago_skipE E4_9 ?_
        refine ago_seqE E4_10 ?_
        refine ago_cut (fun ρ => ρ 0 = .string s_0 ∧ ρ 1 = p_1 ∧ True) ⟨h0, h1, trivial⟩ (fun ρ ⟨h0, h1, _⟩ => ?_)
        refine ago_regE E4_11 (l := [0]) rfl ?_
        refine lk (dt := some 5) R4_3_N rfl rfl rfl (opv_assign rfl rfl rfl) ?_
        refine aops_nil ?_
        refine ago_seqE E4_12 ?_
        refine ago_seqE E4_13 ?_
        refine ago_regE E4_14 (l := [0]) rfl ?_
        refine lk (dt := some 6) R4_4_N rfl rfl rfl (opv_assign rfl rfl rfl) ?_
        refine aops_nil ?_
        refine ago_blockE E4_15 ?_
        refine ago_loopE E4_16 ?_
        obtain ⟨n, H⟩ := H
        exact S4_1_ok Q E  n _ s_0 p_1 (.slice none 0 0) 0 aw99 h0 h1 rfl rfl H
theorem F4_ok {Q : Bool → AW → Prop} {E : List PanicEntry → AW → Prop} (s_0 : ByteArray) (p_1 : Value) (aw : AW) (H : S4_0 Q E s_0 p_1 aw) : CallP prog 4 [.string s_0, p_1] aw sh4 Q E :=
  callP_of func4 C4_is rfl (Nat.le_of_ble_eq_true rfl) (S4_0_ok Q E _ s_0 p_1 aw rfl rfl H)
end Go.Proofs.Tryd
