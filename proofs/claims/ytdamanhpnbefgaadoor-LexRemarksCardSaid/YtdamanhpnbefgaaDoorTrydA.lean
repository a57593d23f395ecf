/- Printed by a program of the prover: what the Go functions of this seat do, in steps. -/
import Derived.Test.YtdamanhpnbefgaaDoorTrydF
set_option linter.unusedVariables false
namespace Go.Proofs.Tryd
open Go Go.Am Go.RowKit
/-! ### battledore/lex.small: function 21 -/
noncomputable def C21_0 : Code := bodyOf f21
theorem C21_is : f21.body = some C21_0 := by kernel_rfl
noncomputable def C21_1 : Code := cl C21_0
noncomputable def R21_0 : Array Oper := regOps C21_1
noncomputable def C21_2 : Code := cr C21_0
noncomputable def C21_3 : Code := cl C21_2
noncomputable def R21_1 : Array Oper := regOps C21_3
noncomputable def C21_4 : Code := cr C21_2
theorem R21_0_N : dstsOk 9 R21_0 = true := by decide +kernel
theorem E21_1 : C21_1 = .region 0 R21_0 false := rfl
theorem R21_1_N : dstsOk 9 R21_1 = true := by decide +kernel
theorem E21_3 : C21_3 = .region 1 R21_1 false := rfl
theorem E21_4 : C21_4 = .ret := rfl
theorem E21_2 : C21_2 = .seq C21_3 C21_4 := rfl
theorem E21_0 : C21_0 = .seq C21_1 C21_2 := rfl
def S21_0 (Q : Bool → AW → Prop) (E : List PanicEntry → AW → Prop)  (c_0 : Int) (aw : AW) : Prop :=
  cnd (decide (97 ≤ c_0)) (Q (decide (c_0 ≤ 122)) aw) (Q false aw)
set_option maxHeartbeats 4000000 in
set_option maxRecDepth 100000 in
theorem S21_0_ok (Q : Bool → AW → Prop) (E : List PanicEntry → AW → Prop)  (ρ : Env) (c_0 : Int) (aw : AW) (h0 : ρ 0 = .int .u8 c_0) (H : S21_0 Q E  c_0 aw) :
    AGo prog 9 [.code C21_0] ρ [] aw (RR prog f21 9 sh21 Q E) := by
  unfold S21_0 at H
  refine ago_seqE E21_0 ?_
  refine ago_regE E21_1 (l := [0]) rfl ?_
  refine lk (dt := some 2) R21_0_N rfl rfl rfl (opv_assign rfl rfl rfl) ?_
  refine aops_nil ?_
  refine ago_seqE E21_2 ?_
  refine ago_regE E21_3 (l := [0, 1, 2, 3, 4, 5, 6]) rfl ?_
  refine lk (dt := some 3) R21_1_N rfl rfl rfl (opv_move rfl rfl h0) ?_
  refine lk (dt := some 4) R21_1_N rfl rfl rfl (opv_ge rfl rfl rfl rfl rfl) ?_
  refine lk (dt := some 5) R21_1_N rfl rfl rfl (opv_move rfl rfl rfl) ?_
  rcases Bool.eq_false_or_eq_true (decide (97 ≤ c_0)) with hb1 | hb1
  · replace H := cnd_t H hb1
    refine lk (dt := some 6) R21_1_N rfl rfl ⟨_, rfl, .inl ⟨_, rfl, gq hb1 rfl⟩⟩ (opv_move rfl rfl h0) ?_
    refine lk (dt := some 7) R21_1_N rfl rfl ⟨_, rfl, .inl ⟨_, rfl, gq hb1 rfl⟩⟩ (opv_le rfl rfl rfl rfl rfl) ?_
    refine lk (dt := some 8) R21_1_N rfl rfl rfl (ov_pickT rfl rfl rfl rfl rfl hb1 rfl) ?_
    refine lk (dt := some 2) R21_1_N rfl rfl rfl (opv_assign rfl rfl rfl) ?_
    refine aops_nil ?_
    exact ago_retE E21_4 (r := (decide (c_0 ≤ 122))) (ares_1 rfl (oneT rfl)) rfl H
  · replace H := cnd_f H hb1
    refine lk_skip (dt := some 6) R21_1_N rfl rfl ⟨_, rfl, .inl ⟨_, rfl, gq hb1 rfl⟩⟩ ?_
    refine lk_skip (dt := some 7) R21_1_N rfl rfl ⟨_, rfl, .inl ⟨_, rfl, gq hb1 rfl⟩⟩ ?_
    refine lk (dt := some 8) R21_1_N rfl rfl rfl (ov_pickF rfl rfl rfl rfl rfl hb1 rfl) ?_
    refine lk (dt := some 2) R21_1_N rfl rfl rfl (opv_assign rfl rfl rfl) ?_
    refine aops_nil ?_
    exact ago_retE E21_4 (r := false) (ares_1 rfl (oneT rfl)) rfl H
theorem F21_ok {Q : Bool → AW → Prop} {E : List PanicEntry → AW → Prop} (c_0 : Int) (aw : AW) (H : S21_0 Q E c_0 aw) : CallP prog 21 [.int .u8 c_0] aw sh21 Q E :=
  callP_of func21 C21_is rfl (Nat.le_of_ble_eq_true rfl) (S21_0_ok Q E _ c_0 aw rfl H)
/-! ### battledore/lex.great: function 22 -/
noncomputable def C22_0 : Code := bodyOf f22
theorem C22_is : f22.body = some C22_0 := by kernel_rfl
noncomputable def C22_1 : Code := cl C22_0
noncomputable def R22_0 : Array Oper := regOps C22_1
noncomputable def C22_2 : Code := cr C22_0
noncomputable def C22_3 : Code := cl C22_2
noncomputable def R22_1 : Array Oper := regOps C22_3
noncomputable def C22_4 : Code := cr C22_2
theorem R22_0_N : dstsOk 9 R22_0 = true := by decide +kernel
theorem E22_1 : C22_1 = .region 0 R22_0 false := rfl
theorem R22_1_N : dstsOk 9 R22_1 = true := by decide +kernel
theorem E22_3 : C22_3 = .region 1 R22_1 false := rfl
theorem E22_4 : C22_4 = .ret := rfl
theorem E22_2 : C22_2 = .seq C22_3 C22_4 := rfl
theorem E22_0 : C22_0 = .seq C22_1 C22_2 := rfl
def S22_0 (Q : Bool → AW → Prop) (E : List PanicEntry → AW → Prop)  (c_0 : Int) (aw : AW) : Prop :=
  cnd (decide (65 ≤ c_0)) (Q (decide (c_0 ≤ 90)) aw) (Q false aw)
set_option maxHeartbeats 4000000 in
set_option maxRecDepth 100000 in
theorem S22_0_ok (Q : Bool → AW → Prop) (E : List PanicEntry → AW → Prop)  (ρ : Env) (c_0 : Int) (aw : AW) (h0 : ρ 0 = .int .u8 c_0) (H : S22_0 Q E  c_0 aw) :
    AGo prog 9 [.code C22_0] ρ [] aw (RR prog f22 9 sh22 Q E) := by
  unfold S22_0 at H
  refine ago_seqE E22_0 ?_
  refine ago_regE E22_1 (l := [0]) rfl ?_
  refine lk (dt := some 2) R22_0_N rfl rfl rfl (opv_assign rfl rfl rfl) ?_
  refine aops_nil ?_
  refine ago_seqE E22_2 ?_
  refine ago_regE E22_3 (l := [0, 1, 2, 3, 4, 5, 6]) rfl ?_
  refine lk (dt := some 3) R22_1_N rfl rfl rfl (opv_move rfl rfl h0) ?_
  refine lk (dt := some 4) R22_1_N rfl rfl rfl (opv_ge rfl rfl rfl rfl rfl) ?_
  refine lk (dt := some 5) R22_1_N rfl rfl rfl (opv_move rfl rfl rfl) ?_
  rcases Bool.eq_false_or_eq_true (decide (65 ≤ c_0)) with hb1 | hb1
  · replace H := cnd_t H hb1
    refine lk (dt := some 6) R22_1_N rfl rfl ⟨_, rfl, .inl ⟨_, rfl, gq hb1 rfl⟩⟩ (opv_move rfl rfl h0) ?_
    refine lk (dt := some 7) R22_1_N rfl rfl ⟨_, rfl, .inl ⟨_, rfl, gq hb1 rfl⟩⟩ (opv_le rfl rfl rfl rfl rfl) ?_
    refine lk (dt := some 8) R22_1_N rfl rfl rfl (ov_pickT rfl rfl rfl rfl rfl hb1 rfl) ?_
    refine lk (dt := some 2) R22_1_N rfl rfl rfl (opv_assign rfl rfl rfl) ?_
    refine aops_nil ?_
    exact ago_retE E22_4 (r := (decide (c_0 ≤ 90))) (ares_1 rfl (oneT rfl)) rfl H
  · replace H := cnd_f H hb1
    refine lk_skip (dt := some 6) R22_1_N rfl rfl ⟨_, rfl, .inl ⟨_, rfl, gq hb1 rfl⟩⟩ ?_
    refine lk_skip (dt := some 7) R22_1_N rfl rfl ⟨_, rfl, .inl ⟨_, rfl, gq hb1 rfl⟩⟩ ?_
    refine lk (dt := some 8) R22_1_N rfl rfl rfl (ov_pickF rfl rfl rfl rfl rfl hb1 rfl) ?_
    refine lk (dt := some 2) R22_1_N rfl rfl rfl (opv_assign rfl rfl rfl) ?_
    refine aops_nil ?_
    exact ago_retE E22_4 (r := false) (ares_1 rfl (oneT rfl)) rfl H
theorem F22_ok {Q : Bool → AW → Prop} {E : List PanicEntry → AW → Prop} (c_0 : Int) (aw : AW) (H : S22_0 Q E c_0 aw) : CallP prog 22 [.int .u8 c_0] aw sh22 Q E :=
  callP_of func22 C22_is rfl (Nat.le_of_ble_eq_true rfl) (S22_0_ok Q E _ c_0 aw rfl H)
/-! ### battledore/lex.in: function 23 -/
noncomputable def C23_0 : Code := bodyOf f23
theorem C23_is : f23.body = some C23_0 := by kernel_rfl
noncomputable def C23_1 : Code := cl C23_0
noncomputable def R23_0 : Array Oper := regOps C23_1
noncomputable def C23_2 : Code := cr C23_0
noncomputable def C23_3 : Code := cl C23_2
noncomputable def R23_1 : Array Oper := regOps C23_3
noncomputable def C23_4 : Code := cr C23_2
theorem R23_0_N : dstsOk 21 R23_0 = true := by decide +kernel
theorem E23_1 : C23_1 = .region 0 R23_0 false := rfl
theorem R23_1_N : dstsOk 21 R23_1 = true := by decide +kernel
theorem E23_3 : C23_3 = .region 1 R23_1 false := rfl
theorem E23_4 : C23_4 = .ret := rfl
theorem E23_2 : C23_2 = .seq C23_3 C23_4 := rfl
theorem E23_0 : C23_0 = .seq C23_1 C23_2 := rfl
def S23_0 (Q : Bool → AW → Prop) (E : List PanicEntry → AW → Prop)  (c_0 : Int) (aw : AW) : Prop :=
  CallP prog 21 [.int .u8 c_0] aw sh21 (fun r1 aw2 =>
  cnd r1 (Q true aw2) (CallP prog 22 [.int .u8 c_0] aw2 sh22 (fun r4 aw5 =>
  cnd r4 (Q true aw5) (CallP prog 25 [.int .u8 c_0] aw5 sh25 (fun r7 aw8 =>
  cnd r7 (Q true aw8) (cnd (decide (c_0 = 95)) (Q true aw8) (Q (decide (c_0 = 39)) aw8))) E)) E)) E
set_option maxHeartbeats 4000000 in
set_option maxRecDepth 100000 in
theorem S23_0_ok (Q : Bool → AW → Prop) (E : List PanicEntry → AW → Prop)  (ρ : Env) (c_0 : Int) (aw : AW) (h0 : ρ 0 = .int .u8 c_0) (H : S23_0 Q E  c_0 aw) :
    AGo prog 21 [.code C23_0] ρ [] aw (RR prog f23 21 sh23 Q E) := by
  unfold S23_0 at H
  refine ago_seqE E23_0 ?_
  refine ago_regE E23_1 (l := [0]) rfl ?_
  refine lk (dt := some 2) R23_0_N rfl rfl rfl (opv_assign rfl rfl rfl) ?_
  refine aops_nil ?_
  refine ago_seqE E23_2 ?_
  refine ago_regE E23_3 (l := [0, 1, 2, 3, 4, 5, 6, 7, 8, 9, 10, 11, 12, 13, 14, 15, 16, 17, 18]) rfl ?_
  refine lk (dt := some 3) R23_1_N rfl rfl rfl (opv_move rfl rfl h0) ?_
  refine lk_call (dt := some 4) R23_1_N rfl rfl rfl (opc_of rfl rfl is21 (ma_cons rfl rfl)) H (fun _ _ h => ⟨rfl, h⟩) fun r1 aw2 H => ?_
  refine lk (dt := some 5) R23_1_N rfl rfl rfl (opv_move rfl rfl rfl) ?_
  rcases Bool.eq_false_or_eq_true r1 with hb3 | hb3
  · replace H := cnd_t H hb3
    refine lk_skip (dt := some 6) R23_1_N rfl rfl ⟨_, rfl, .inl ⟨_, rfl, gq hb3 rfl⟩⟩ ?_
    refine lk_skip (dt := some 7) R23_1_N rfl rfl ⟨_, rfl, .inl ⟨_, rfl, gq hb3 rfl⟩⟩ ?_
    refine lk (dt := some 8) R23_1_N rfl rfl rfl (ov_pickT rfl rfl rfl rfl rfl hb3 rfl) ?_
    refine lk (dt := some 9) R23_1_N rfl rfl rfl (opv_move rfl rfl rfl) ?_
    refine lk_skip (dt := some 10) R23_1_N rfl rfl ⟨_, rfl, .inl ⟨_, rfl, gq rfl rfl⟩⟩ ?_
    refine lk_skip (dt := some 11) R23_1_N rfl rfl ⟨_, rfl, .inl ⟨_, rfl, gq rfl rfl⟩⟩ ?_
    refine lk (dt := some 12) R23_1_N rfl rfl rfl (ov_pickT rfl rfl rfl rfl rfl rfl rfl) ?_
    refine lk (dt := some 13) R23_1_N rfl rfl rfl (opv_move rfl rfl rfl) ?_
    refine lk_skip (dt := some 14) R23_1_N rfl rfl ⟨_, rfl, .inl ⟨_, rfl, gq rfl rfl⟩⟩ ?_
    refine lk_skip (dt := some 15) R23_1_N rfl rfl ⟨_, rfl, .inl ⟨_, rfl, gq rfl rfl⟩⟩ ?_
    refine lk (dt := some 16) R23_1_N rfl rfl rfl (ov_pickT rfl rfl rfl rfl rfl rfl rfl) ?_
    refine lk (dt := some 17) R23_1_N rfl rfl rfl (opv_move rfl rfl rfl) ?_
    refine lk_skip (dt := some 18) R23_1_N rfl rfl ⟨_, rfl, .inl ⟨_, rfl, gq rfl rfl⟩⟩ ?_
    refine lk_skip (dt := some 19) R23_1_N rfl rfl ⟨_, rfl, .inl ⟨_, rfl, gq rfl rfl⟩⟩ ?_
    refine lk (dt := some 20) R23_1_N rfl rfl rfl (ov_pickT rfl rfl rfl rfl rfl rfl rfl) ?_
    refine lk (dt := some 2) R23_1_N rfl rfl rfl (opv_assign rfl rfl rfl) ?_
    refine aops_nil ?_
    exact ago_retE E23_4 (r := true) (ares_1 rfl (oneT rfl)) rfl H
  · replace H := cnd_f H hb3
    refine lk (dt := some 6) R23_1_N rfl rfl ⟨_, rfl, .inl ⟨_, rfl, gq hb3 rfl⟩⟩ (opv_move rfl rfl h0) ?_
    refine lk_call (dt := some 7) R23_1_N rfl rfl ⟨_, rfl, .inl ⟨_, rfl, gq hb3 rfl⟩⟩ (opc_of rfl rfl is22 (ma_cons rfl rfl)) H (fun _ _ h => ⟨rfl, h⟩) fun r4 aw5 H => ?_
    refine lk (dt := some 8) R23_1_N rfl rfl rfl (ov_pickF rfl rfl rfl rfl rfl hb3 rfl) ?_
    refine lk (dt := some 9) R23_1_N rfl rfl rfl (opv_move rfl rfl rfl) ?_
    rcases Bool.eq_false_or_eq_true r4 with hb6 | hb6
    · replace H := cnd_t H hb6
      refine lk_skip (dt := some 10) R23_1_N rfl rfl ⟨_, rfl, .inl ⟨_, rfl, gq hb6 rfl⟩⟩ ?_
      refine lk_skip (dt := some 11) R23_1_N rfl rfl ⟨_, rfl, .inl ⟨_, rfl, gq hb6 rfl⟩⟩ ?_
      refine lk (dt := some 12) R23_1_N rfl rfl rfl (ov_pickT rfl rfl rfl rfl rfl hb6 rfl) ?_
      refine lk (dt := some 13) R23_1_N rfl rfl rfl (opv_move rfl rfl rfl) ?_
      refine lk_skip (dt := some 14) R23_1_N rfl rfl ⟨_, rfl, .inl ⟨_, rfl, gq rfl rfl⟩⟩ ?_
      refine lk_skip (dt := some 15) R23_1_N rfl rfl ⟨_, rfl, .inl ⟨_, rfl, gq rfl rfl⟩⟩ ?_
      refine lk (dt := some 16) R23_1_N rfl rfl rfl (ov_pickT rfl rfl rfl rfl rfl rfl rfl) ?_
      refine lk (dt := some 17) R23_1_N rfl rfl rfl (opv_move rfl rfl rfl) ?_
      refine lk_skip (dt := some 18) R23_1_N rfl rfl ⟨_, rfl, .inl ⟨_, rfl, gq rfl rfl⟩⟩ ?_
      refine lk_skip (dt := some 19) R23_1_N rfl rfl ⟨_, rfl, .inl ⟨_, rfl, gq rfl rfl⟩⟩ ?_
      refine lk (dt := some 20) R23_1_N rfl rfl rfl (ov_pickT rfl rfl rfl rfl rfl rfl rfl) ?_
      refine lk (dt := some 2) R23_1_N rfl rfl rfl (opv_assign rfl rfl rfl) ?_
      refine aops_nil ?_
      exact ago_retE E23_4 (r := true) (ares_1 rfl (oneT rfl)) rfl H
    · replace H := cnd_f H hb6
      refine lk (dt := some 10) R23_1_N rfl rfl ⟨_, rfl, .inl ⟨_, rfl, gq hb6 rfl⟩⟩ (opv_move rfl rfl h0) ?_
      refine lk_call (dt := some 11) R23_1_N rfl rfl ⟨_, rfl, .inl ⟨_, rfl, gq hb6 rfl⟩⟩ (opc_of rfl rfl is25 (ma_cons rfl rfl)) H (fun _ _ h => ⟨rfl, h⟩) fun r7 aw8 H => ?_
      refine lk (dt := some 12) R23_1_N rfl rfl rfl (ov_pickF rfl rfl rfl rfl rfl hb6 rfl) ?_
      refine lk (dt := some 13) R23_1_N rfl rfl rfl (opv_move rfl rfl rfl) ?_
      rcases Bool.eq_false_or_eq_true r7 with hb9 | hb9
      · replace H := cnd_t H hb9
        refine lk_skip (dt := some 14) R23_1_N rfl rfl ⟨_, rfl, .inl ⟨_, rfl, gq hb9 rfl⟩⟩ ?_
        refine lk_skip (dt := some 15) R23_1_N rfl rfl ⟨_, rfl, .inl ⟨_, rfl, gq hb9 rfl⟩⟩ ?_
        refine lk (dt := some 16) R23_1_N rfl rfl rfl (ov_pickT rfl rfl rfl rfl rfl hb9 rfl) ?_
        refine lk (dt := some 17) R23_1_N rfl rfl rfl (opv_move rfl rfl rfl) ?_
        refine lk_skip (dt := some 18) R23_1_N rfl rfl ⟨_, rfl, .inl ⟨_, rfl, gq rfl rfl⟩⟩ ?_
        refine lk_skip (dt := some 19) R23_1_N rfl rfl ⟨_, rfl, .inl ⟨_, rfl, gq rfl rfl⟩⟩ ?_
        refine lk (dt := some 20) R23_1_N rfl rfl rfl (ov_pickT rfl rfl rfl rfl rfl rfl rfl) ?_
        refine lk (dt := some 2) R23_1_N rfl rfl rfl (opv_assign rfl rfl rfl) ?_
        refine aops_nil ?_
        exact ago_retE E23_4 (r := true) (ares_1 rfl (oneT rfl)) rfl H
      · replace H := cnd_f H hb9
        refine lk (dt := some 14) R23_1_N rfl rfl ⟨_, rfl, .inl ⟨_, rfl, gq hb9 rfl⟩⟩ (opv_move rfl rfl h0) ?_
        refine lk (dt := some 15) R23_1_N rfl rfl ⟨_, rfl, .inl ⟨_, rfl, gq hb9 rfl⟩⟩ (opv_eqI rfl rfl rfl rfl rfl) ?_
        refine lk (dt := some 16) R23_1_N rfl rfl rfl (ov_pickF rfl rfl rfl rfl rfl hb9 rfl) ?_
        refine lk (dt := some 17) R23_1_N rfl rfl rfl (opv_move rfl rfl rfl) ?_
        rcases Bool.eq_false_or_eq_true (decide (c_0 = 95)) with hb10 | hb10
        · replace H := cnd_t H hb10
          refine lk_skip (dt := some 18) R23_1_N rfl rfl ⟨_, rfl, .inl ⟨_, rfl, gq hb10 rfl⟩⟩ ?_
          refine lk_skip (dt := some 19) R23_1_N rfl rfl ⟨_, rfl, .inl ⟨_, rfl, gq hb10 rfl⟩⟩ ?_
          refine lk (dt := some 20) R23_1_N rfl rfl rfl (ov_pickT rfl rfl rfl rfl rfl hb10 rfl) ?_
          refine lk (dt := some 2) R23_1_N rfl rfl rfl (opv_assign rfl rfl rfl) ?_
          refine aops_nil ?_
          exact ago_retE E23_4 (r := true) (ares_1 rfl (oneT rfl)) rfl H
        · replace H := cnd_f H hb10
          refine lk (dt := some 18) R23_1_N rfl rfl ⟨_, rfl, .inl ⟨_, rfl, gq hb10 rfl⟩⟩ (opv_move rfl rfl h0) ?_
          refine lk (dt := some 19) R23_1_N rfl rfl ⟨_, rfl, .inl ⟨_, rfl, gq hb10 rfl⟩⟩ (opv_eqI rfl rfl rfl rfl rfl) ?_
          refine lk (dt := some 20) R23_1_N rfl rfl rfl (ov_pickF rfl rfl rfl rfl rfl hb10 rfl) ?_
          refine lk (dt := some 2) R23_1_N rfl rfl rfl (opv_assign rfl rfl rfl) ?_
          refine aops_nil ?_
          exact ago_retE E23_4 (r := (decide (c_0 = 39))) (ares_1 rfl (oneT rfl)) rfl H
theorem F23_ok {Q : Bool → AW → Prop} {E : List PanicEntry → AW → Prop} (c_0 : Int) (aw : AW) (H : S23_0 Q E c_0 aw) : CallP prog 23 [.int .u8 c_0] aw sh23 Q E :=
  callP_of func23 C23_is rfl (Nat.le_of_ble_eq_true rfl) (S23_0_ok Q E _ c_0 aw rfl H)
/-! ### battledore/lex.digit: function 25 -/
noncomputable def C25_0 : Code := bodyOf f25
theorem C25_is : f25.body = some C25_0 := by kernel_rfl
noncomputable def C25_1 : Code := cl C25_0
noncomputable def R25_0 : Array Oper := regOps C25_1
noncomputable def C25_2 : Code := cr C25_0
noncomputable def C25_3 : Code := cl C25_2
noncomputable def R25_1 : Array Oper := regOps C25_3
noncomputable def C25_4 : Code := cr C25_2
theorem R25_0_N : dstsOk 9 R25_0 = true := by decide +kernel
theorem E25_1 : C25_1 = .region 0 R25_0 false := rfl
theorem R25_1_N : dstsOk 9 R25_1 = true := by decide +kernel
theorem E25_3 : C25_3 = .region 1 R25_1 false := rfl
theorem E25_4 : C25_4 = .ret := rfl
theorem E25_2 : C25_2 = .seq C25_3 C25_4 := rfl
theorem E25_0 : C25_0 = .seq C25_1 C25_2 := rfl
def S25_0 (Q : Bool → AW → Prop) (E : List PanicEntry → AW → Prop)  (c_0 : Int) (aw : AW) : Prop :=
  cnd (decide (48 ≤ c_0)) (Q (decide (c_0 ≤ 57)) aw) (Q false aw)
set_option maxHeartbeats 4000000 in
set_option maxRecDepth 100000 in
theorem S25_0_ok (Q : Bool → AW → Prop) (E : List PanicEntry → AW → Prop)  (ρ : Env) (c_0 : Int) (aw : AW) (h0 : ρ 0 = .int .u8 c_0) (H : S25_0 Q E  c_0 aw) :
    AGo prog 9 [.code C25_0] ρ [] aw (RR prog f25 9 sh25 Q E) := by
  unfold S25_0 at H
  refine ago_seqE E25_0 ?_
  refine ago_regE E25_1 (l := [0]) rfl ?_
  refine lk (dt := some 2) R25_0_N rfl rfl rfl (opv_assign rfl rfl rfl) ?_
  refine aops_nil ?_
  refine ago_seqE E25_2 ?_
  refine ago_regE E25_3 (l := [0, 1, 2, 3, 4, 5, 6]) rfl ?_
  refine lk (dt := some 3) R25_1_N rfl rfl rfl (opv_move rfl rfl h0) ?_
  refine lk (dt := some 4) R25_1_N rfl rfl rfl (opv_ge rfl rfl rfl rfl rfl) ?_
  refine lk (dt := some 5) R25_1_N rfl rfl rfl (opv_move rfl rfl rfl) ?_
  rcases Bool.eq_false_or_eq_true (decide (48 ≤ c_0)) with hb1 | hb1
  · replace H := cnd_t H hb1
    refine lk (dt := some 6) R25_1_N rfl rfl ⟨_, rfl, .inl ⟨_, rfl, gq hb1 rfl⟩⟩ (opv_move rfl rfl h0) ?_
    refine lk (dt := some 7) R25_1_N rfl rfl ⟨_, rfl, .inl ⟨_, rfl, gq hb1 rfl⟩⟩ (opv_le rfl rfl rfl rfl rfl) ?_
    refine lk (dt := some 8) R25_1_N rfl rfl rfl (ov_pickT rfl rfl rfl rfl rfl hb1 rfl) ?_
    refine lk (dt := some 2) R25_1_N rfl rfl rfl (opv_assign rfl rfl rfl) ?_
    refine aops_nil ?_
    exact ago_retE E25_4 (r := (decide (c_0 ≤ 57))) (ares_1 rfl (oneT rfl)) rfl H
  · replace H := cnd_f H hb1
    refine lk_skip (dt := some 6) R25_1_N rfl rfl ⟨_, rfl, .inl ⟨_, rfl, gq hb1 rfl⟩⟩ ?_
    refine lk_skip (dt := some 7) R25_1_N rfl rfl ⟨_, rfl, .inl ⟨_, rfl, gq hb1 rfl⟩⟩ ?_
    refine lk (dt := some 8) R25_1_N rfl rfl rfl (ov_pickF rfl rfl rfl rfl rfl hb1 rfl) ?_
    refine lk (dt := some 2) R25_1_N rfl rfl rfl (opv_assign rfl rfl rfl) ?_
    refine aops_nil ?_
    exact ago_retE E25_4 (r := false) (ares_1 rfl (oneT rfl)) rfl H
theorem F25_ok {Q : Bool → AW → Prop} {E : List PanicEntry → AW → Prop} (c_0 : Int) (aw : AW) (H : S25_0 Q E c_0 aw) : CallP prog 25 [.int .u8 c_0] aw sh25 Q E :=
  callP_of func25 C25_is rfl (Nat.le_of_ble_eq_true rfl) (S25_0_ok Q E _ c_0 aw rfl H)
/-! ### internal/stringslite.HasPrefix: function 20 -/
noncomputable def C20_0 : Code := bodyOf f20
theorem C20_is : f20.body = some C20_0 := by kernel_rfl
noncomputable def C20_1 : Code := cl C20_0
noncomputable def R20_0 : Array Oper := regOps C20_1
noncomputable def C20_2 : Code := cr C20_0
noncomputable def C20_3 : Code := cl C20_2
noncomputable def R20_1 : Array Oper := regOps C20_3
noncomputable def C20_4 : Code := cr C20_2
theorem R20_0_N : dstsOk 18 R20_0 = true := by decide +kernel
theorem E20_1 : C20_1 = .region 0 R20_0 false := rfl
theorem R20_1_N : dstsOk 18 R20_1 = true := by decide +kernel
theorem E20_3 : C20_3 = .region 1 R20_1 false := rfl
theorem E20_4 : C20_4 = .ret := rfl
theorem E20_2 : C20_2 = .seq C20_3 C20_4 := rfl
theorem E20_0 : C20_0 = .seq C20_1 C20_2 := rfl
def S20_0 (Q : Bool → AW → Prop) (E : List PanicEntry → AW → Prop)  (s_0 : ByteArray) (prefix_1 : ByteArray) (aw : AW) : Prop :=
  cnd (decide ((prefix_1.size : Int) ≤ (s_0.size : Int))) (cutS s_0 0 (prefix_1.size : Int) fun s2 =>
  Q (decide (s2 = prefix_1)) aw) (Q false aw)
set_option maxHeartbeats 4000000 in
set_option maxRecDepth 100000 in
theorem S20_0_ok (Q : Bool → AW → Prop) (E : List PanicEntry → AW → Prop)  (ρ : Env) (s_0 : ByteArray) (prefix_1 : ByteArray) (aw : AW) (h0 : ρ 0 = .string s_0) (h1 : ρ 1 = .string prefix_1) (H : S20_0 Q E  s_0 prefix_1 aw) :
    AGo prog 18 [.code C20_0] ρ [] aw (RR prog f20 18 sh20 Q E) := by
  unfold S20_0 at H
  refine ago_seqE E20_0 ?_
  refine ago_regE E20_1 (l := [0]) rfl ?_
  refine lk (dt := some 4) R20_0_N rfl rfl rfl (opv_assign rfl rfl rfl) ?_
  refine aops_nil ?_
  refine ago_seqE E20_2 ?_
  refine ago_regE E20_3 (l := [0, 1, 2, 3, 4, 5, 6, 7, 8, 9, 10, 11, 12, 13]) rfl ?_
  refine lk (dt := some 5) R20_1_N rfl rfl rfl (opv_move rfl rfl h0) ?_
  refine lk (dt := some 6) R20_1_N rfl rfl rfl (opv_lenS rfl rfl rfl underlying9 rfl) ?_
  refine lk (dt := some 7) R20_1_N rfl rfl rfl (opv_move rfl rfl h1) ?_
  refine lk (dt := some 8) R20_1_N rfl rfl rfl (opv_lenS rfl rfl rfl underlying9 rfl) ?_
  refine lk (dt := some 9) R20_1_N rfl rfl rfl (opv_ge rfl rfl rfl rfl rfl) ?_
  refine lk (dt := some 10) R20_1_N rfl rfl rfl (opv_move rfl rfl rfl) ?_
  rcases Bool.eq_false_or_eq_true (decide ((prefix_1.size : Int) ≤ (s_0.size : Int))) with hb1 | hb1
  · replace H := cnd_t H hb1
    refine lk (dt := some 11) R20_1_N rfl rfl ⟨_, rfl, .inl ⟨_, rfl, gq hb1 rfl⟩⟩ (opv_move rfl rfl h0) ?_
    refine lk (dt := some 12) R20_1_N rfl rfl ⟨_, rfl, .inl ⟨_, rfl, gq hb1 rfl⟩⟩ (opv_move rfl rfl h1) ?_
    refine lk (dt := some 13) R20_1_N rfl rfl ⟨_, rfl, .inl ⟨_, rfl, gq hb1 rfl⟩⟩ (opv_lenS rfl rfl rfl underlying9 rfl) ?_
    obtain ⟨s2, hq3, hq4, hq5, hq6, H⟩ := H
    refine lk (dt := some 14) R20_1_N rfl rfl ⟨_, rfl, .inl ⟨_, rfl, gq hb1 rfl⟩⟩ (ov_cutS rfl rfl underlying9 rfl (bndN _ _ _) (bndS rfl) hq3 hq4 hq5 hq6) ?_
    refine lk (dt := some 15) R20_1_N rfl rfl ⟨_, rfl, .inl ⟨_, rfl, gq hb1 rfl⟩⟩ (opv_move rfl rfl h1) ?_
    refine lk (dt := some 16) R20_1_N rfl rfl ⟨_, rfl, .inl ⟨_, rfl, gq hb1 rfl⟩⟩ (opv_eqS rfl rfl rfl rfl rfl) ?_
    refine lk (dt := some 17) R20_1_N rfl rfl rfl (ov_pickT rfl rfl rfl rfl rfl hb1 rfl) ?_
    refine lk (dt := some 4) R20_1_N rfl rfl rfl (opv_assign rfl rfl rfl) ?_
    refine aops_nil ?_
    exact ago_retE E20_4 (r := (decide (s2 = prefix_1))) (ares_1 rfl (oneT rfl)) rfl H
  · replace H := cnd_f H hb1
    refine lk_skip (dt := some 11) R20_1_N rfl rfl ⟨_, rfl, .inl ⟨_, rfl, gq hb1 rfl⟩⟩ ?_
    refine lk_skip (dt := some 12) R20_1_N rfl rfl ⟨_, rfl, .inl ⟨_, rfl, gq hb1 rfl⟩⟩ ?_
    refine lk_skip (dt := some 13) R20_1_N rfl rfl ⟨_, rfl, .inl ⟨_, rfl, gq hb1 rfl⟩⟩ ?_
    refine lk_skip (dt := some 14) R20_1_N rfl rfl ⟨_, rfl, .inl ⟨_, rfl, gq hb1 rfl⟩⟩ ?_
    refine lk_skip (dt := some 15) R20_1_N rfl rfl ⟨_, rfl, .inl ⟨_, rfl, gq hb1 rfl⟩⟩ ?_
    refine lk_skip (dt := some 16) R20_1_N rfl rfl ⟨_, rfl, .inl ⟨_, rfl, gq hb1 rfl⟩⟩ ?_
    refine lk (dt := some 17) R20_1_N rfl rfl rfl (ov_pickF rfl rfl rfl rfl rfl hb1 rfl) ?_
    refine lk (dt := some 4) R20_1_N rfl rfl rfl (opv_assign rfl rfl rfl) ?_
    refine aops_nil ?_
    exact ago_retE E20_4 (r := false) (ares_1 rfl (oneT rfl)) rfl H
theorem F20_ok {Q : Bool → AW → Prop} {E : List PanicEntry → AW → Prop} (s_0 : ByteArray) (prefix_1 : ByteArray) (aw : AW) (H : S20_0 Q E s_0 prefix_1 aw) : CallP prog 20 [.string s_0, .string prefix_1] aw sh20 Q E :=
  callP_of func20 C20_is rfl (Nat.le_of_ble_eq_true rfl) (S20_0_ok Q E _ s_0 prefix_1 aw rfl rfl H)
/-! ### strings.HasPrefix: function 16 -/
noncomputable def C16_0 : Code := bodyOf f16
theorem C16_is : f16.body = some C16_0 := by kernel_rfl
noncomputable def C16_1 : Code := cl C16_0
noncomputable def R16_0 : Array Oper := regOps C16_1
noncomputable def C16_2 : Code := cr C16_0
noncomputable def C16_3 : Code := cl C16_2
noncomputable def R16_1 : Array Oper := regOps C16_3
noncomputable def C16_4 : Code := cr C16_2
theorem R16_0_N : dstsOk 8 R16_0 = true := by decide +kernel
theorem E16_1 : C16_1 = .region 0 R16_0 false := rfl
theorem R16_1_N : dstsOk 8 R16_1 = true := by decide +kernel
theorem E16_3 : C16_3 = .region 1 R16_1 false := rfl
theorem E16_4 : C16_4 = .ret := rfl
theorem E16_2 : C16_2 = .seq C16_3 C16_4 := rfl
theorem E16_0 : C16_0 = .seq C16_1 C16_2 := rfl
def S16_0 (Q : Bool → AW → Prop) (E : List PanicEntry → AW → Prop)  (s_0 : ByteArray) (prefix_1 : ByteArray) (aw : AW) : Prop :=
  CallP prog 20 [.string s_0, .string prefix_1] aw sh20 (fun r1 aw2 =>
  Q r1 aw2) E
set_option maxHeartbeats 4000000 in
set_option maxRecDepth 100000 in
theorem S16_0_ok (Q : Bool → AW → Prop) (E : List PanicEntry → AW → Prop)  (ρ : Env) (s_0 : ByteArray) (prefix_1 : ByteArray) (aw : AW) (h0 : ρ 0 = .string s_0) (h1 : ρ 1 = .string prefix_1) (H : S16_0 Q E  s_0 prefix_1 aw) :
    AGo prog 8 [.code C16_0] ρ [] aw (RR prog f16 8 sh16 Q E) := by
  unfold S16_0 at H
  refine ago_seqE E16_0 ?_
  refine ago_regE E16_1 (l := [0]) rfl ?_
  refine lk (dt := some 4) R16_0_N rfl rfl rfl (opv_assign rfl rfl rfl) ?_
  refine aops_nil ?_
  refine ago_seqE E16_2 ?_
  refine ago_regE E16_3 (l := [0, 1, 2, 3]) rfl ?_
  refine lk (dt := some 5) R16_1_N rfl rfl rfl (opv_move rfl rfl h0) ?_
  refine lk (dt := some 6) R16_1_N rfl rfl rfl (opv_move rfl rfl h1) ?_
  refine lk_call (dt := some 7) R16_1_N rfl rfl rfl (opc_of rfl rfl is20 (ma_cons rfl (ma_cons rfl rfl))) H (fun _ _ h => ⟨rfl, h⟩) fun r1 aw2 H => ?_
  refine lk (dt := some 4) R16_1_N rfl rfl rfl (opv_assign rfl rfl rfl) ?_
  refine aops_nil ?_
  exact ago_retE E16_4 (r := r1) (ares_1 rfl (oneT rfl)) rfl H
theorem F16_ok {Q : Bool → AW → Prop} {E : List PanicEntry → AW → Prop} (s_0 : ByteArray) (prefix_1 : ByteArray) (aw : AW) (H : S16_0 Q E s_0 prefix_1 aw) : CallP prog 16 [.string s_0, .string prefix_1] aw sh16 Q E :=
  callP_of func16 C16_is rfl (Nat.le_of_ble_eq_true rfl) (S16_0_ok Q E _ s_0 prefix_1 aw rfl rfl H)
/-! ### battledore/lex.remark: function 17 -/
noncomputable def C17_0 : Code := bodyOf f17
theorem C17_is : f17.body = some C17_0 := by kernel_rfl
noncomputable def C17_1 : Code := cl C17_0
noncomputable def R17_0 : Array Oper := regOps C17_1
noncomputable def C17_2 : Code := cr C17_0
noncomputable def C17_3 : Code := cl C17_2
noncomputable def R17_1 : Array Oper := regOps C17_3
noncomputable def C17_4 : Code := cr C17_2
noncomputable def C17_5 : Code := cl C17_4
noncomputable def C17_6 : Code := cl C17_5
noncomputable def R17_2 : Array Oper := regOps C17_6
noncomputable def C17_7 : Code := cr C17_5
noncomputable def C17_8 : Code := cl C17_7
noncomputable def C17_9 : Code := cl C17_8
noncomputable def C17_10 : Code := cl C17_9
noncomputable def C17_11 : Code := cl C17_10
noncomputable def R17_3 : Array Oper := regOps C17_11
noncomputable def C17_12 : Code := cr C17_10
noncomputable def C17_13 : Code := cl C17_12
noncomputable def C17_14 : Code := cr C17_12
noncomputable def C17_15 : Code := cr C17_9
noncomputable def C17_16 : Code := cl C17_15
noncomputable def C17_17 : Code := cl C17_16
noncomputable def C17_18 : Code := cl C17_17
noncomputable def R17_5 : Array Oper := regOps C17_18
noncomputable def C17_19 : Code := cr C17_17
noncomputable def C17_20 : Code := cl C17_19
noncomputable def C17_21 : Code := cl C17_20
noncomputable def R17_6 : Array Oper := regOps C17_21
noncomputable def C17_22 : Code := cr C17_20
noncomputable def C17_23 : Code := cl C17_22
noncomputable def C17_24 : Code := cl C17_23
noncomputable def R17_7 : Array Oper := regOps C17_24
noncomputable def C17_25 : Code := cr C17_23
noncomputable def R17_8 : Array Oper := regOps C17_25
noncomputable def C17_26 : Code := cr C17_22
noncomputable def C17_27 : Code := cl C17_26
noncomputable def R17_9 : Array Oper := regOps C17_27
noncomputable def C17_28 : Code := cr C17_26
noncomputable def C17_29 : Code := cl C17_28
noncomputable def C17_30 : Code := cl C17_29
noncomputable def R17_10 : Array Oper := regOps C17_30
noncomputable def C17_31 : Code := cr C17_29
noncomputable def C17_32 : Code := cl C17_31
noncomputable def R17_11 : Array Oper := regOps C17_32
noncomputable def C17_33 : Code := cr C17_31
noncomputable def C17_34 : Code := cl C17_33
noncomputable def R17_12 : Array Oper := regOps C17_34
noncomputable def C17_35 : Code := cr C17_33
noncomputable def C17_36 : Code := cl C17_35
noncomputable def C17_37 : Code := cl C17_36
noncomputable def R17_13 : Array Oper := regOps C17_37
noncomputable def C17_38 : Code := cr C17_36
noncomputable def C17_39 : Code := cr C17_35
noncomputable def C17_40 : Code := cr C17_28
noncomputable def C17_41 : Code := cr C17_15
noncomputable def R17_4 : Array Oper := regOps C17_41
noncomputable def C17_42 : Code := cr C17_4
noncomputable def C17_43 : Code := cl C17_42
noncomputable def R17_14 : Array Oper := regOps C17_43
noncomputable def C17_44 : Code := cr C17_42
theorem R17_0_N : dstsOk 33 R17_0 = true := by decide +kernel
theorem E17_1 : C17_1 = .region 0 R17_0 false := rfl
theorem R17_1_N : dstsOk 33 R17_1 = true := by decide +kernel
theorem E17_3 : C17_3 = .region 1 R17_1 false := rfl
theorem R17_2_N : dstsOk 33 R17_2 = true := by decide +kernel
theorem E17_6 : C17_6 = .region 2 R17_2 false := rfl
theorem R17_3_N : dstsOk 33 R17_3 = true := by decide +kernel
theorem E17_11 : C17_11 = .region 3 R17_3 false := rfl
theorem E17_13 : C17_13 = .skip := rfl
theorem E17_14 : C17_14 = .exit 0 := rfl
theorem E17_12 : C17_12 = .cond (.tmp 9) C17_13 C17_14 := rfl
theorem E17_10 : C17_10 = .seq C17_11 C17_12 := rfl
theorem R17_5_N : dstsOk 33 R17_5 = true := by decide +kernel
theorem E17_18 : C17_18 = .region 5 R17_5 false := rfl
theorem R17_6_N : dstsOk 33 R17_6 = true := by decide +kernel
theorem E17_21 : C17_21 = .region 6 R17_6 false := rfl
theorem R17_7_N : dstsOk 33 R17_7 = true := by decide +kernel
theorem E17_24 : C17_24 = .region 7 R17_7 false := rfl
theorem R17_8_N : dstsOk 33 R17_8 = true := by decide +kernel
theorem E17_25 : C17_25 = .region 8 R17_8 false := rfl
theorem E17_23 : C17_23 = .seq C17_24 C17_25 := rfl
theorem R17_9_N : dstsOk 33 R17_9 = true := by decide +kernel
theorem E17_27 : C17_27 = .region 9 R17_9 false := rfl
theorem R17_10_N : dstsOk 33 R17_10 = true := by decide +kernel
theorem E17_30 : C17_30 = .region 10 R17_10 false := rfl
theorem R17_11_N : dstsOk 33 R17_11 = true := by decide +kernel
theorem E17_32 : C17_32 = .region 11 R17_11 false := rfl
theorem R17_12_N : dstsOk 33 R17_12 = true := by decide +kernel
theorem E17_34 : C17_34 = .region 12 R17_12 false := rfl
theorem R17_13_N : dstsOk 33 R17_13 = true := by decide +kernel
theorem E17_37 : C17_37 = .region 13 R17_13 false := rfl
theorem E17_38 : C17_38 = .ret := rfl
theorem E17_36 : C17_36 = .seq C17_37 C17_38 := rfl
theorem E17_39 : C17_39 = .skip := rfl
theorem E17_35 : C17_35 = .cond (.tmp 30) C17_36 C17_39 := rfl
theorem E17_33 : C17_33 = .seq C17_34 C17_35 := rfl
theorem E17_31 : C17_31 = .seq C17_32 C17_33 := rfl
theorem E17_29 : C17_29 = .seq C17_30 C17_31 := rfl
theorem E17_40 : C17_40 = .skip := rfl
theorem E17_28 : C17_28 = .cond (.tmp 23) C17_29 C17_40 := rfl
theorem E17_26 : C17_26 = .seq C17_27 C17_28 := rfl
theorem E17_22 : C17_22 = .cond (.tmp 17) C17_23 C17_26 := rfl
theorem E17_20 : C17_20 = .seq C17_21 C17_22 := rfl
theorem E17_19 : C17_19 = .block 2 C17_20 := rfl
theorem E17_17 : C17_17 = .seq C17_18 C17_19 := rfl
theorem E17_16 : C17_16 = .block 1 C17_17 := rfl
theorem R17_4_N : dstsOk 33 R17_4 = true := by decide +kernel
theorem E17_41 : C17_41 = .region 4 R17_4 false := rfl
theorem E17_15 : C17_15 = .seq C17_16 C17_41 := rfl
theorem E17_9 : C17_9 = .seq C17_10 C17_15 := rfl
theorem E17_8 : C17_8 = .loop C17_9 := rfl
theorem E17_7 : C17_7 = .block 0 C17_8 := rfl
theorem E17_5 : C17_5 = .seq C17_6 C17_7 := rfl
theorem R17_14_N : dstsOk 33 R17_14 = true := by decide +kernel
theorem E17_43 : C17_43 = .region 14 R17_14 false := rfl
theorem E17_44 : C17_44 = .ret := rfl
theorem E17_42 : C17_42 = .seq C17_43 C17_44 := rfl
theorem E17_4 : C17_4 = .seq C17_5 C17_42 := rfl
theorem E17_2 : C17_2 = .seq C17_3 C17_4 := rfl
theorem E17_0 : C17_0 = .seq C17_1 C17_2 := rfl
def S17_2 (Q : Int → AW → Prop) (E : List PanicEntry → AW → Prop) (nx1 : ByteArray → Int → Int → AW → Prop) (s_0 : ByteArray) (deep_3 : Int) (i_4 : Int) (aw : AW) : Prop :=
  nx1 s_0 deep_3 (IntKind.i64.wrap (i_4 + 1)) aw
def S17_1s (Q : Int → AW → Prop) (E : List PanicEntry → AW → Prop)  (nx1 : ByteArray → Int → Int → AW → Prop) (s_0 : ByteArray) (deep_3 : Int) (i_4 : Int) (aw : AW) : Prop :=
  cnd (decide ((IntKind.i64.wrap (i_4 + 1)) < (s_0.size : Int))) (cutS s_0 i_4 (IntKind.i64.wrap (i_4 + 2)) fun s2 =>
  cnd (decide (s2 = (⟨#[40, 42]⟩ : ByteArray))) (S17_2 Q E nx1 s_0 (IntKind.i64.wrap (deep_3 + 1)) (IntKind.i64.wrap (i_4 + 1)) aw) (cnd (decide (s2 = (⟨#[42, 41]⟩ : ByteArray))) (cnd (decide ((IntKind.i64.wrap (deep_3 - 1)) = 0)) (Q (IntKind.i64.wrap ((IntKind.i64.wrap (i_4 + 1)) + 1)) aw) (S17_2 Q E nx1 s_0 (IntKind.i64.wrap (deep_3 - 1)) (IntKind.i64.wrap (i_4 + 1)) aw)) (S17_2 Q E nx1 s_0 deep_3 i_4 aw))) (Q (-1) aw)
def S17_1 (Q : Int → AW → Prop) (E : List PanicEntry → AW → Prop)  : Nat → ByteArray → Int → Int → AW → Prop
  | 0 => fun _ _ _ _ => False
  | n + 1 => S17_1s Q E  (S17_1 Q E  n)
def S17_0 (Q : Int → AW → Prop) (E : List PanicEntry → AW → Prop)  (s_0 : ByteArray) (aw : AW) : Prop :=
  ∃ n, S17_1 Q E  n s_0 0 0 aw
set_option maxHeartbeats 4000000 in
set_option maxRecDepth 100000 in
theorem S17_2_ok (Q : Int → AW → Prop) (E : List PanicEntry → AW → Prop) (nx1 : ByteArray → Int → Int → AW → Prop) (L1 : ∀ (ρ : Env) (s_0 : ByteArray) (deep_3 : Int) (i_4 : Int) (aw : AW) (h0 : ρ 0 = .string s_0) (h3 : ρ 3 = .int .i64 deep_3) (h4 : ρ 4 = .int .i64 i_4), nx1 s_0 deep_3 i_4 aw → AGo prog 33 [.code C17_9, .inLoop C17_9, .inBlock 0, .code C17_42] ρ [] aw (RR prog f17 33 sh17 Q E)) (ρ : Env) (s_0 : ByteArray) (deep_3 : Int) (i_4 : Int) (aw : AW) (h0 : ρ 0 = .string s_0) (h3 : ρ 3 = .int .i64 deep_3) (h4 : ρ 4 = .int .i64 i_4) (H : S17_2 Q E nx1 s_0 deep_3 i_4 aw) :
    AGo prog 33 [.inBlock 2, .inBlock 1, .code C17_41, .inLoop C17_9, .inBlock 0, .code C17_42] ρ [] aw (RR prog f17 33 sh17 Q E) := by
  unfold S17_2 at H
  refine ago_inBlock ?_
  refine ago_inBlock ?_
  refine ago_regE E17_41 (l := [0, 1, 2]) rfl ?_
  refine lk (dt := some 10) R17_4_N rfl rfl rfl (opv_move rfl rfl h4) ?_
  refine lk (dt := some 11) R17_4_N rfl rfl rfl (opv_add rfl rfl rfl rfl rfl) ?_
  refine lk (dt := some 4) R17_4_N rfl rfl rfl (opv_assign rfl rfl rfl) ?_
  refine aops_nil ?_
  refine ago_inLoop ?_
  exact L1 _ s_0 deep_3 (IntKind.i64.wrap (i_4 + 1)) aw h0 h3 rfl H
set_option maxHeartbeats 4000000 in
set_option maxRecDepth 100000 in
theorem S17_1s_ok (Q : Int → AW → Prop) (E : List PanicEntry → AW → Prop)  (nx1 : ByteArray → Int → Int → AW → Prop) (L1 : ∀ (ρ : Env) (s_0 : ByteArray) (deep_3 : Int) (i_4 : Int) (aw : AW) (h0 : ρ 0 = .string s_0) (h3 : ρ 3 = .int .i64 deep_3) (h4 : ρ 4 = .int .i64 i_4), nx1 s_0 deep_3 i_4 aw → AGo prog 33 [.code C17_9, .inLoop C17_9, .inBlock 0, .code C17_42] ρ [] aw (RR prog f17 33 sh17 Q E)) (ρ : Env) (s_0 : ByteArray) (deep_3 : Int) (i_4 : Int) (aw : AW) (h0 : ρ 0 = .string s_0) (h3 : ρ 3 = .int .i64 deep_3) (h4 : ρ 4 = .int .i64 i_4) (H : S17_1s Q E  nx1 s_0 deep_3 i_4 aw) :
    AGo prog 33 [.code C17_9, .inLoop C17_9, .inBlock 0, .code C17_42] ρ [] aw (RR prog f17 33 sh17 Q E) := by
  unfold S17_1s at H
  refine ago_seqE E17_9 ?_
  refine ago_seqE E17_10 ?_
  refine ago_regE E17_11 (l := [0, 1, 2, 3, 4]) rfl ?_
  refine lk (dt := some 5) R17_3_N rfl rfl rfl (opv_move rfl rfl h4) ?_
  refine lk (dt := some 6) R17_3_N rfl rfl rfl (opv_add rfl rfl rfl rfl rfl) ?_
  refine lk (dt := some 7) R17_3_N rfl rfl rfl (opv_move rfl rfl h0) ?_
  refine lk (dt := some 8) R17_3_N rfl rfl rfl (opv_lenS rfl rfl rfl underlying9 rfl) ?_
  refine lk (dt := some 9) R17_3_N rfl rfl rfl (opv_lt rfl rfl rfl rfl rfl) ?_
  refine aops_nil ?_
  refine ago_condE  E17_12 rfl rfl (fun hb1 => ?_) (fun hb1 => ?_)
  · replace H := cnd_t H hb1
    refine ago_skipE E17_13 ?_
    refine ago_seqE E17_15 ?_
    refine ago_blockE E17_16 ?_
    refine ago_seqE E17_17 ?_
    refine ago_regE E17_18 (l := [0, 1, 2, 3, 4]) rfl ?_
    refine lk (dt := some 12) R17_5_N rfl rfl rfl (opv_move rfl rfl h0) ?_
    refine lk (dt := some 13) R17_5_N rfl rfl rfl (opv_move rfl rfl h4) ?_
    refine lk (dt := some 14) R17_5_N rfl rfl rfl (opv_move rfl rfl h4) ?_
    refine lk (dt := some 15) R17_5_N rfl rfl rfl (opv_add rfl rfl rfl rfl rfl) ?_
    obtain ⟨s2, hq3, hq4, hq5, hq6, H⟩ := H
    refine lk (dt := some 16) R17_5_N rfl rfl rfl (ov_cutS rfl rfl underlying9 rfl (bndS rfl) (bndS rfl) hq3 hq4 hq5 hq6) ?_
    refine aops_nil ?_
    refine ago_blockE E17_19 ?_
    refine ago_seqE E17_20 ?_
    refine ago_regE E17_21 (l := [0, 1]) rfl ?_
    refine lk (dt := some 18) R17_6_N rfl rfl rfl (opv_eqS rfl rfl rfl rfl rfl) ?_
    refine lk (dt := some 17) R17_6_N rfl rfl rfl (opv_assign rfl rfl rfl) ?_
    refine aops_nil ?_
    refine ago_condE  E17_22 rfl rfl (fun hb7 => ?_) (fun hb7 => ?_)
    · replace H := cnd_t H hb7
      refine ago_seqE E17_23 ?_
      refine ago_cut (fun ρ => ρ 0 = .string s_0 ∧ ρ 3 = .int .i64 deep_3 ∧ ρ 4 = .int .i64 i_4 ∧ True) ⟨h0, h3, h4, trivial⟩ (fun ρ ⟨h0, h3, h4, _⟩ => ?_)
      refine ago_regE E17_24 (l := [0, 1, 2]) rfl ?_
      refine lk (dt := some 19) R17_7_N rfl rfl rfl (opv_move rfl rfl h3) ?_
      refine lk (dt := some 20) R17_7_N rfl rfl rfl (opv_add rfl rfl rfl rfl rfl) ?_
      refine lk (dt := some 3) R17_7_N rfl rfl rfl (opv_assign rfl rfl rfl) ?_
      refine aops_nil ?_
      refine ago_regE E17_25 (l := [0, 1, 2]) rfl ?_
      refine lk (dt := some 21) R17_8_N rfl rfl rfl (opv_move rfl rfl h4) ?_
      refine lk (dt := some 22) R17_8_N rfl rfl rfl (opv_add rfl rfl rfl rfl rfl) ?_
      refine lk (dt := some 4) R17_8_N rfl rfl rfl (opv_assign rfl rfl rfl) ?_
      refine aops_nil ?_
      exact S17_2_ok Q E nx1 L1 _ s_0 (IntKind.i64.wrap (deep_3 + 1)) (IntKind.i64.wrap (i_4 + 1)) aw h0 rfl rfl H
    · replace H := cnd_f H hb7
      refine ago_seqE E17_26 ?_
      refine ago_cut (fun ρ => ρ 0 = .string s_0 ∧ ρ 3 = .int .i64 deep_3 ∧ ρ 4 = .int .i64 i_4 ∧ ρ 16 = .string s2 ∧ True) ⟨h0, h3, h4, rfl, trivial⟩ (fun ρ ⟨h0, h3, h4, h16, _⟩ => ?_)
      refine ago_regE E17_27 (l := [0, 1]) rfl ?_
      refine lk (dt := some 24) R17_9_N rfl rfl rfl (opv_eqS rfl rfl rfl h16 rfl) ?_
      refine lk (dt := some 23) R17_9_N rfl rfl rfl (opv_assign rfl rfl rfl) ?_
      refine aops_nil ?_
      refine ago_condE  E17_28 rfl rfl (fun hb8 => ?_) (fun hb8 => ?_)
      · replace H := cnd_t H hb8
        refine ago_seqE E17_29 ?_
        refine ago_regE E17_30 (l := [0, 1, 2]) rfl ?_
        refine lk (dt := some 25) R17_10_N rfl rfl rfl (opv_move rfl rfl h3) ?_
        refine lk (dt := some 26) R17_10_N rfl rfl rfl (opv_sub rfl rfl rfl rfl rfl) ?_
        refine lk (dt := some 3) R17_10_N rfl rfl rfl (opv_assign rfl rfl rfl) ?_
        refine aops_nil ?_
        refine ago_seqE E17_31 ?_
        refine ago_regE E17_32 (l := [0, 1, 2]) rfl ?_
        refine lk (dt := some 27) R17_11_N rfl rfl rfl (opv_move rfl rfl h4) ?_
        refine lk (dt := some 28) R17_11_N rfl rfl rfl (opv_add rfl rfl rfl rfl rfl) ?_
        refine lk (dt := some 4) R17_11_N rfl rfl rfl (opv_assign rfl rfl rfl) ?_
        refine aops_nil ?_
        refine ago_seqE E17_33 ?_
        refine ago_regE E17_34 (l := [0, 1]) rfl ?_
        refine lk (dt := some 29) R17_12_N rfl rfl rfl (opv_move rfl rfl rfl) ?_
        refine lk (dt := some 30) R17_12_N rfl rfl rfl (opv_eqI rfl rfl rfl rfl rfl) ?_
        refine aops_nil ?_
        refine ago_condE  E17_35 rfl rfl (fun hb9 => ?_) (fun hb9 => ?_)
        · replace H := cnd_t H hb9
          refine ago_seqE E17_36 ?_
          refine ago_regE E17_37 (l := [0, 1, 2]) rfl ?_
          refine lk (dt := some 31) R17_13_N rfl rfl rfl (opv_move rfl rfl rfl) ?_
          refine lk (dt := some 32) R17_13_N rfl rfl rfl (opv_add rfl rfl rfl rfl rfl) ?_
          refine lk (dt := some 2) R17_13_N rfl rfl rfl (opv_assign rfl rfl rfl) ?_
          refine aops_nil ?_
          exact ago_retE E17_38 (r := (IntKind.i64.wrap ((IntKind.i64.wrap (i_4 + 1)) + 1))) (ares_1 rfl (oneT rfl)) rfl H
        · replace H := cnd_f H hb9
          refine ago_skipE E17_39 ?_
          exact S17_2_ok Q E nx1 L1 _ s_0 (IntKind.i64.wrap (deep_3 - 1)) (IntKind.i64.wrap (i_4 + 1)) aw h0 rfl rfl H
      · replace H := cnd_f H hb8
        refine ago_skipE E17_40 ?_
        exact S17_2_ok Q E nx1 L1 _ s_0 deep_3 i_4 aw h0 h3 h4 H
  · replace H := cnd_f H hb1
    refine ago_exitE E17_14 rfl ?_
    refine ago_seqE E17_42 ?_
    refine ago_regE E17_43 (l := [0]) rfl ?_
    refine lk (dt := some 2) R17_14_N rfl rfl rfl (opv_assign rfl rfl rfl) ?_
    refine aops_nil ?_
    exact ago_retE E17_44 (r := (-1)) (ares_1 rfl (oneT rfl)) rfl H
theorem S17_1_ok (Q : Int → AW → Prop) (E : List PanicEntry → AW → Prop)  : ∀ (n : Nat) (ρ : Env) (s_0 : ByteArray) (deep_3 : Int) (i_4 : Int) (aw : AW) (h0 : ρ 0 = .string s_0) (h3 : ρ 3 = .int .i64 deep_3) (h4 : ρ 4 = .int .i64 i_4), S17_1 Q E  n s_0 deep_3 i_4 aw →
    AGo prog 33 [.code C17_9, .inLoop C17_9, .inBlock 0, .code C17_42] ρ [] aw (RR prog f17 33 sh17 Q E)
  | 0, _, _, _, _, _, _, _, _ => fun H => H.elim
  | n + 1, ρ, s_0, deep_3, i_4, aw, h0, h3, h4 => fun H => S17_1s_ok Q E  _ (S17_1_ok Q E  n) ρ s_0 deep_3 i_4 aw h0 h3 h4 H
set_option maxHeartbeats 4000000 in
set_option maxRecDepth 100000 in
theorem S17_0_ok (Q : Int → AW → Prop) (E : List PanicEntry → AW → Prop)  (ρ : Env) (s_0 : ByteArray) (aw : AW) (h0 : ρ 0 = .string s_0) (H : S17_0 Q E  s_0 aw) :
    AGo prog 33 [.code C17_0] ρ [] aw (RR prog f17 33 sh17 Q E) := by
  unfold S17_0 at H
  refine ago_seqE E17_0 ?_
  refine ago_regE E17_1 (l := [0]) rfl ?_
  refine lk (dt := some 2) R17_0_N rfl rfl rfl (opv_assign rfl rfl rfl) ?_
  refine aops_nil ?_
  refine ago_seqE E17_2 ?_
  refine ago_regE E17_3 (l := [0]) rfl ?_
  refine lk (dt := some 3) R17_1_N rfl rfl rfl (opv_assign rfl rfl rfl) ?_
  refine aops_nil ?_
  refine ago_seqE E17_4 ?_
  refine ago_seqE E17_5 ?_
  refine ago_regE E17_6 (l := [0]) rfl ?_
  refine lk (dt := some 4) R17_2_N rfl rfl rfl (opv_assign rfl rfl rfl) ?_
  refine aops_nil ?_
  refine ago_blockE E17_7 ?_
  refine ago_loopE E17_8 ?_
  obtain ⟨n, H⟩ := H
  exact S17_1_ok Q E  n _ s_0 0 0 aw h0 rfl rfl H
theorem F17_ok {Q : Int → AW → Prop} {E : List PanicEntry → AW → Prop} (s_0 : ByteArray) (aw : AW) (H : S17_0 Q E s_0 aw) : CallP prog 17 [.string s_0] aw sh17 Q E :=
  callP_of func17 C17_is rfl (Nat.le_of_ble_eq_true rfl) (S17_0_ok Q E _ s_0 aw rfl H)
/-! ### internal/stringslite.IndexByte: function 19 -/
noncomputable def C19_0 : Code := bodyOf f19
theorem C19_is : f19.body = some C19_0 := by kernel_rfl
noncomputable def C19_1 : Code := cl C19_0
noncomputable def R19_0 : Array Oper := regOps C19_1
noncomputable def C19_2 : Code := cr C19_0
noncomputable def C19_3 : Code := cl C19_2
noncomputable def R19_1 : Array Oper := regOps C19_3
noncomputable def C19_4 : Code := cr C19_2
theorem R19_0_N : dstsOk 8 R19_0 = true := by decide +kernel
theorem E19_1 : C19_1 = .region 0 R19_0 false := rfl
theorem R19_1_N : dstsOk 8 R19_1 = true := by decide +kernel
theorem E19_3 : C19_3 = .region 1 R19_1 false := rfl
theorem E19_4 : C19_4 = .ret := rfl
theorem E19_2 : C19_2 = .seq C19_3 C19_4 := rfl
theorem E19_0 : C19_0 = .seq C19_1 C19_2 := rfl
def S19_0 (Q : Int → AW → Prop) (E : List PanicEntry → AW → Prop)  (s_0 : ByteArray) (c_1 : Int) (aw : AW) : Prop :=
  Q (firstIdx s_0 c_1.toNat.toUInt8) aw
set_option maxHeartbeats 4000000 in
set_option maxRecDepth 100000 in
theorem S19_0_ok (Q : Int → AW → Prop) (E : List PanicEntry → AW → Prop)  (ρ : Env) (s_0 : ByteArray) (c_1 : Int) (aw : AW) (h0 : ρ 0 = .string s_0) (h1 : ρ 1 = .int .u8 c_1) (H : S19_0 Q E  s_0 c_1 aw) :
    AGo prog 8 [.code C19_0] ρ [] aw (RR prog f19 8 sh19 Q E) := by
  unfold S19_0 at H
  refine ago_seqE E19_0 ?_
  refine ago_regE E19_1 (l := [0]) rfl ?_
  refine lk (dt := some 4) R19_0_N rfl rfl rfl (opv_assign rfl rfl rfl) ?_
  refine aops_nil ?_
  refine ago_seqE E19_2 ?_
  refine ago_regE E19_3 (l := [0, 1, 2, 3]) rfl ?_
  refine lk (dt := some 5) R19_1_N rfl rfl rfl (opv_move rfl rfl h0) ?_
  refine lk (dt := some 6) R19_1_N rfl rfl rfl (opv_move rfl rfl h1) ?_
  refine lk (dt := some 7) R19_1_N rfl rfl rfl (ov_idx rfl rfl ext28 (ma_cons rfl (ma_cons rfl rfl))) ?_
  refine lk (dt := some 4) R19_1_N rfl rfl rfl (opv_assign rfl rfl rfl) ?_
  refine aops_nil ?_
  exact ago_retE E19_4 (r := (firstIdx s_0 c_1.toNat.toUInt8)) (ares_1 rfl (oneT rfl)) rfl H
theorem F19_ok {Q : Int → AW → Prop} {E : List PanicEntry → AW → Prop} (s_0 : ByteArray) (c_1 : Int) (aw : AW) (H : S19_0 Q E s_0 c_1 aw) : CallP prog 19 [.string s_0, .int .u8 c_1] aw sh19 Q E :=
  callP_of func19 C19_is rfl (Nat.le_of_ble_eq_true rfl) (S19_0_ok Q E _ s_0 c_1 aw rfl rfl H)
/-! ### strings.IndexByte: function 15 -/
noncomputable def C15_0 : Code := bodyOf f15
theorem C15_is : f15.body = some C15_0 := by kernel_rfl
noncomputable def C15_1 : Code := cl C15_0
noncomputable def R15_0 : Array Oper := regOps C15_1
noncomputable def C15_2 : Code := cr C15_0
noncomputable def C15_3 : Code := cl C15_2
noncomputable def R15_1 : Array Oper := regOps C15_3
noncomputable def C15_4 : Code := cr C15_2
theorem R15_0_N : dstsOk 8 R15_0 = true := by decide +kernel
theorem E15_1 : C15_1 = .region 0 R15_0 false := rfl
theorem R15_1_N : dstsOk 8 R15_1 = true := by decide +kernel
theorem E15_3 : C15_3 = .region 1 R15_1 false := rfl
theorem E15_4 : C15_4 = .ret := rfl
theorem E15_2 : C15_2 = .seq C15_3 C15_4 := rfl
theorem E15_0 : C15_0 = .seq C15_1 C15_2 := rfl
def S15_0 (Q : Int → AW → Prop) (E : List PanicEntry → AW → Prop)  (s_0 : ByteArray) (c_1 : Int) (aw : AW) : Prop :=
  CallP prog 19 [.string s_0, .int .u8 c_1] aw sh19 (fun r1 aw2 =>
  Q r1 aw2) E
set_option maxHeartbeats 4000000 in
set_option maxRecDepth 100000 in
theorem S15_0_ok (Q : Int → AW → Prop) (E : List PanicEntry → AW → Prop)  (ρ : Env) (s_0 : ByteArray) (c_1 : Int) (aw : AW) (h0 : ρ 0 = .string s_0) (h1 : ρ 1 = .int .u8 c_1) (H : S15_0 Q E  s_0 c_1 aw) :
    AGo prog 8 [.code C15_0] ρ [] aw (RR prog f15 8 sh15 Q E) := by
  unfold S15_0 at H
  refine ago_seqE E15_0 ?_
  refine ago_regE E15_1 (l := [0]) rfl ?_
  refine lk (dt := some 4) R15_0_N rfl rfl rfl (opv_assign rfl rfl rfl) ?_
  refine aops_nil ?_
  refine ago_seqE E15_2 ?_
  refine ago_regE E15_3 (l := [0, 1, 2, 3]) rfl ?_
  refine lk (dt := some 5) R15_1_N rfl rfl rfl (opv_move rfl rfl h0) ?_
  refine lk (dt := some 6) R15_1_N rfl rfl rfl (opv_move rfl rfl h1) ?_
  refine lk_call (dt := some 7) R15_1_N rfl rfl rfl (opc_of rfl rfl is19 (ma_cons rfl (ma_cons rfl rfl))) H (fun _ _ h => ⟨rfl, h⟩) fun r1 aw2 H => ?_
  refine lk (dt := some 4) R15_1_N rfl rfl rfl (opv_assign rfl rfl rfl) ?_
  refine aops_nil ?_
  exact ago_retE E15_4 (r := r1) (ares_1 rfl (oneT rfl)) rfl H
theorem F15_ok {Q : Int → AW → Prop} {E : List PanicEntry → AW → Prop} (s_0 : ByteArray) (c_1 : Int) (aw : AW) (H : S15_0 Q E s_0 c_1 aw) : CallP prog 15 [.string s_0, .int .u8 c_1] aw sh15 Q E :=
  callP_of func15 C15_is rfl (Nat.le_of_ble_eq_true rfl) (S15_0_ok Q E _ s_0 c_1 aw rfl rfl H)
/-! ### battledore/lex.name: function 24 -/
noncomputable def C24_0 : Code := bodyOf f24
theorem C24_is : f24.body = some C24_0 := by kernel_rfl
noncomputable def C24_1 : Code := cl C24_0
noncomputable def R24_0 : Array Oper := regOps C24_1
noncomputable def C24_2 : Code := cr C24_0
noncomputable def C24_3 : Code := cl C24_2
noncomputable def C24_4 : Code := cl C24_3
noncomputable def R24_1 : Array Oper := regOps C24_4
noncomputable def C24_5 : Code := cr C24_3
noncomputable def C24_6 : Code := cl C24_5
noncomputable def C24_7 : Code := cl C24_6
noncomputable def R24_2 : Array Oper := regOps C24_7
noncomputable def C24_8 : Code := cr C24_6
noncomputable def C24_9 : Code := cr C24_5
noncomputable def C24_10 : Code := cr C24_2
noncomputable def C24_11 : Code := cl C24_10
noncomputable def C24_12 : Code := cl C24_11
noncomputable def R24_3 : Array Oper := regOps C24_12
noncomputable def C24_13 : Code := cr C24_11
noncomputable def C24_14 : Code := cl C24_13
noncomputable def C24_15 : Code := cl C24_14
noncomputable def C24_16 : Code := cl C24_15
noncomputable def R24_4 : Array Oper := regOps C24_16
noncomputable def C24_17 : Code := cr C24_15
noncomputable def C24_18 : Code := cl C24_17
noncomputable def C24_19 : Code := cl C24_18
noncomputable def C24_20 : Code := cr C24_18
noncomputable def C24_21 : Code := cr C24_17
noncomputable def C24_22 : Code := cl C24_21
noncomputable def C24_23 : Code := cl C24_22
noncomputable def C24_24 : Code := cl C24_23
noncomputable def R24_5 : Array Oper := regOps C24_24
noncomputable def C24_25 : Code := cr C24_23
noncomputable def C24_26 : Code := cl C24_25
noncomputable def R24_6 : Array Oper := regOps C24_26
noncomputable def C24_27 : Code := cr C24_25
noncomputable def C24_28 : Code := cl C24_27
noncomputable def C24_29 : Code := cl C24_28
noncomputable def R24_7 : Array Oper := regOps C24_29
noncomputable def C24_30 : Code := cr C24_28
noncomputable def C24_31 : Code := cr C24_27
noncomputable def C24_32 : Code := cr C24_21
noncomputable def R24_8 : Array Oper := regOps C24_32
noncomputable def C24_33 : Code := cr C24_10
noncomputable def C24_34 : Code := cl C24_33
noncomputable def R24_9 : Array Oper := regOps C24_34
noncomputable def C24_35 : Code := cr C24_33
noncomputable def C24_36 : Code := cl C24_35
noncomputable def C24_37 : Code := cl C24_36
noncomputable def C24_38 : Code := cl C24_37
noncomputable def R24_10 : Array Oper := regOps C24_38
noncomputable def C24_39 : Code := cr C24_37
noncomputable def C24_40 : Code := cl C24_39
noncomputable def C24_41 : Code := cl C24_40
noncomputable def C24_42 : Code := cl C24_41
noncomputable def R24_11 : Array Oper := regOps C24_42
noncomputable def C24_43 : Code := cr C24_41
noncomputable def C24_44 : Code := cl C24_43
noncomputable def C24_45 : Code := cl C24_44
noncomputable def R24_12 : Array Oper := regOps C24_45
noncomputable def C24_46 : Code := cr C24_44
noncomputable def C24_47 : Code := cr C24_43
noncomputable def C24_48 : Code := cr C24_40
noncomputable def R24_13 : Array Oper := regOps C24_48
noncomputable def C24_49 : Code := cr C24_39
noncomputable def C24_50 : Code := cl C24_49
noncomputable def R24_14 : Array Oper := regOps C24_50
noncomputable def C24_51 : Code := cr C24_49
noncomputable def C24_52 : Code := cl C24_51
noncomputable def R24_15 : Array Oper := regOps C24_52
noncomputable def C24_53 : Code := cr C24_51
noncomputable def C24_54 : Code := cr C24_35
noncomputable def C24_55 : Code := cl C24_54
noncomputable def R24_16 : Array Oper := regOps C24_55
noncomputable def C24_56 : Code := cr C24_54
theorem R24_0_N : dstsOk 48 R24_0 = true := by decide +kernel
theorem E24_1 : C24_1 = .region 0 R24_0 false := rfl
theorem R24_1_N : dstsOk 48 R24_1 = true := by decide +kernel
theorem E24_4 : C24_4 = .region 1 R24_1 false := rfl
theorem R24_2_N : dstsOk 48 R24_2 = true := by decide +kernel
theorem E24_7 : C24_7 = .region 2 R24_2 false := rfl
theorem E24_8 : C24_8 = .ret := rfl
theorem E24_6 : C24_6 = .seq C24_7 C24_8 := rfl
theorem E24_9 : C24_9 = .skip := rfl
theorem E24_5 : C24_5 = .cond (.tmp 12) C24_6 C24_9 := rfl
theorem E24_3 : C24_3 = .seq C24_4 C24_5 := rfl
theorem R24_3_N : dstsOk 48 R24_3 = true := by decide +kernel
theorem E24_12 : C24_12 = .region 3 R24_3 false := rfl
theorem R24_4_N : dstsOk 48 R24_4 = true := by decide +kernel
theorem E24_16 : C24_16 = .region 4 R24_4 false := rfl
theorem E24_19 : C24_19 = .skip := rfl
theorem E24_20 : C24_20 = .exit 0 := rfl
theorem E24_18 : C24_18 = .cond (.tmp 16) C24_19 C24_20 := rfl
theorem R24_5_N : dstsOk 48 R24_5 = true := by decide +kernel
theorem E24_24 : C24_24 = .region 5 R24_5 false := rfl
theorem R24_6_N : dstsOk 48 R24_6 = true := by decide +kernel
theorem E24_26 : C24_26 = .region 6 R24_6 false := rfl
theorem R24_7_N : dstsOk 48 R24_7 = true := by decide +kernel
theorem E24_29 : C24_29 = .region 7 R24_7 false := rfl
theorem E24_30 : C24_30 = .ret := rfl
theorem E24_28 : C24_28 = .seq C24_29 C24_30 := rfl
theorem E24_31 : C24_31 = .skip := rfl
theorem E24_27 : C24_27 = .cond (.tmp 20) C24_28 C24_31 := rfl
theorem E24_25 : C24_25 = .seq C24_26 C24_27 := rfl
theorem E24_23 : C24_23 = .seq C24_24 C24_25 := rfl
theorem E24_22 : C24_22 = .block 1 C24_23 := rfl
theorem R24_8_N : dstsOk 48 R24_8 = true := by decide +kernel
theorem E24_32 : C24_32 = .region 8 R24_8 false := rfl
theorem E24_21 : C24_21 = .seq C24_22 C24_32 := rfl
theorem E24_17 : C24_17 = .seq C24_18 C24_21 := rfl
theorem E24_15 : C24_15 = .seq C24_16 C24_17 := rfl
theorem E24_14 : C24_14 = .loop C24_15 := rfl
theorem E24_13 : C24_13 = .block 0 C24_14 := rfl
theorem E24_11 : C24_11 = .seq C24_12 C24_13 := rfl
theorem R24_9_N : dstsOk 48 R24_9 = true := by decide +kernel
theorem E24_34 : C24_34 = .region 9 R24_9 false := rfl
theorem R24_10_N : dstsOk 48 R24_10 = true := by decide +kernel
theorem E24_38 : C24_38 = .region 10 R24_10 false := rfl
theorem R24_11_N : dstsOk 48 R24_11 = true := by decide +kernel
theorem E24_42 : C24_42 = .region 11 R24_11 false := rfl
theorem R24_12_N : dstsOk 48 R24_12 = true := by decide +kernel
theorem E24_45 : C24_45 = .region 12 R24_12 false := rfl
theorem E24_46 : C24_46 = .ret := rfl
theorem E24_44 : C24_44 = .seq C24_45 C24_46 := rfl
theorem E24_47 : C24_47 = .skip := rfl
theorem E24_43 : C24_43 = .cond (.tmp 36) C24_44 C24_47 := rfl
theorem E24_41 : C24_41 = .seq C24_42 C24_43 := rfl
theorem R24_13_N : dstsOk 48 R24_13 = true := by decide +kernel
theorem E24_48 : C24_48 = .region 13 R24_13 false := rfl
theorem E24_40 : C24_40 = .seq C24_41 C24_48 := rfl
theorem R24_14_N : dstsOk 48 R24_14 = true := by decide +kernel
theorem E24_50 : C24_50 = .region 14 R24_14 false := rfl
theorem R24_15_N : dstsOk 48 R24_15 = true := by decide +kernel
theorem E24_52 : C24_52 = .region 15 R24_15 false := rfl
theorem E24_53 : C24_53 = .skip := rfl
theorem E24_51 : C24_51 = .cond (.tmp 40) C24_52 C24_53 := rfl
theorem E24_49 : C24_49 = .seq C24_50 C24_51 := rfl
theorem E24_39 : C24_39 = .cond (.tmp 25) C24_40 C24_49 := rfl
theorem E24_37 : C24_37 = .seq C24_38 C24_39 := rfl
theorem E24_36 : C24_36 = .block 2 C24_37 := rfl
theorem R24_16_N : dstsOk 48 R24_16 = true := by decide +kernel
theorem E24_55 : C24_55 = .region 16 R24_16 false := rfl
theorem E24_56 : C24_56 = .ret := rfl
theorem E24_54 : C24_54 = .seq C24_55 C24_56 := rfl
theorem E24_35 : C24_35 = .seq C24_36 C24_54 := rfl
theorem E24_33 : C24_33 = .seq C24_34 C24_35 := rfl
theorem E24_10 : C24_10 = .seq C24_11 C24_33 := rfl
theorem E24_2 : C24_2 = .seq C24_3 C24_10 := rfl
theorem E24_0 : C24_0 = .seq C24_1 C24_2 := rfl
def S24_2 (Q : (Int × ByteArray × Int × Int × Int × Int) → AW → Prop) (E : List PanicEntry → AW → Prop)  (s_0 : ByteArray) (n_1 : Int) (t_4 : Value) (kind_10 : Int) (aw : AW) : Prop :=
  st aw t_4 [.int .u8 kind_10, .string s_0, .int .i64 0] fun aw1 =>
  ∃ b8 i9 c11 c12 c13, t_4 = .pointer (some ⟨b8, i9, none⟩) ∧ aw1.get b8 i9 = some (.int .u8 c11) ∧ aw1.get b8 (i9 + 1) = some (.string c12) ∧ aw1.get b8 (i9 + 2) = some (.int .i64 c13) ∧ Q (c11, c12, c13, n_1, 0, 0) aw1
def S24_1s (Q : (Int × ByteArray × Int × Int × Int × Int) → AW → Prop) (E : List PanicEntry → AW → Prop)  (nx1 : ByteArray → Int → Value → List Value → Int → AW → Prop) (s_0 : ByteArray) (n_1 : Int) (t_4 : Value) (t_14 : List Value) (t_15 : Int) (aw : AW) : Prop :=
  cnd (decide (t_15 < 15)) (elS 15 t_14 t_15 fun c18 =>
  cnd (decide (c18 = s_0)) (st aw t_4 [.int .u8 6, .string s_0, .int .i64 0] fun aw24 =>
  ∃ b31 i32 c34 c35 c36, t_4 = .pointer (some ⟨b31, i32, none⟩) ∧ aw24.get b31 i32 = some (.int .u8 c34) ∧ aw24.get b31 (i32 + 1) = some (.string c35) ∧ aw24.get b31 (i32 + 2) = some (.int .i64 c36) ∧ Q (c34, c35, c36, n_1, 0, 0) aw24) (nx1 s_0 n_1 t_4 t_14 (IntKind.i64.wrap (t_15 + 1)) aw)) (chr s_0 0 fun c40 =>
  cnd (decide (c40 = 39)) (cnd (decide (n_1 < 2)) (st aw t_4 [.int .u8 0, .string (⟨#[]⟩ : ByteArray), .int .i64 0] fun aw47 =>
  ∃ b54 i55 c57 c58 c59, t_4 = .pointer (some ⟨b54, i55, none⟩) ∧ aw47.get b54 i55 = some (.int .u8 c57) ∧ aw47.get b54 (i55 + 1) = some (.string c58) ∧ aw47.get b54 (i55 + 2) = some (.int .i64 c59) ∧ Q (c57, c58, c59, 0, (min n_1 1), 4) aw47) (chr s_0 1 fun c63 =>
  CallP prog 21 [.int .u8 c63] aw sh21 (fun r67 aw68 =>
  cnd (!r67) (st aw68 t_4 [.int .u8 0, .string (⟨#[]⟩ : ByteArray), .int .i64 0] fun aw70 =>
  ∃ b77 i78 c80 c81 c82, t_4 = .pointer (some ⟨b77, i78, none⟩) ∧ aw70.get b77 i78 = some (.int .u8 c80) ∧ aw70.get b77 (i78 + 1) = some (.string c81) ∧ aw70.get b77 (i78 + 2) = some (.int .i64 c82) ∧ Q (c80, c81, c82, 0, (min n_1 1), 4) aw70) (S24_2 Q E  s_0 n_1 t_4 3 aw68)) E)) (chr s_0 0 fun c86 =>
  CallP prog 22 [.int .u8 c86] aw sh22 (fun r90 aw91 =>
  cnd r90 (S24_2 Q E  s_0 n_1 t_4 2 aw91) (S24_2 Q E  s_0 n_1 t_4 1 aw91)) E))
def S24_1 (Q : (Int × ByteArray × Int × Int × Int × Int) → AW → Prop) (E : List PanicEntry → AW → Prop)  : Nat → ByteArray → Int → Value → List Value → Int → AW → Prop
  | 0 => fun _ _ _ _ _ _ => False
  | n + 1 => S24_1s Q E  (S24_1 Q E  n)
def S24_0 (Q : (Int × ByteArray × Int × Int × Int × Int) → AW → Prop) (E : List PanicEntry → AW → Prop)  (s_0 : ByteArray) (n_1 : Int) (aw : AW) : Prop :=
  alc aw [.int .u8 0, .string (⟨#[]⟩ : ByteArray), .int .i64 0] 33 0 fun p93 aw94 =>
  cnd (decide (24 < n_1)) (st aw94 p93 [.int .u8 0, .string (⟨#[]⟩ : ByteArray), .int .i64 0] fun aw98 =>
  ∃ b105 i106 c108 c109 c110, p93 = .pointer (some ⟨b105, i106, none⟩) ∧ aw98.get b105 i106 = some (.int .u8 c108) ∧ aw98.get b105 (i106 + 1) = some (.string c109) ∧ aw98.get b105 (i106 + 2) = some (.int .i64 c110) ∧ Q (c108, c109, c110, 0, 0, 2) aw98) (ldN 15 aw94 (.pointer (some ⟨1, 0, none⟩)) fun x117 =>
  ∃ n, S24_1 Q E  n s_0 n_1 p93 x117 0 aw94)
set_option maxHeartbeats 4000000 in
set_option maxRecDepth 100000 in
theorem S24_2_ok (Q : (Int × ByteArray × Int × Int × Int × Int) → AW → Prop) (E : List PanicEntry → AW → Prop)  (ρ : Env) (s_0 : ByteArray) (n_1 : Int) (t_4 : Value) (kind_10 : Int) (aw : AW) (h0 : ρ 0 = .string s_0) (h1 : ρ 1 = .int .i64 n_1) (h4 : ρ 4 = t_4) (h10 : ρ 10 = .int .u8 kind_10) (H : S24_2 Q E  s_0 n_1 t_4 kind_10 aw) :
    AGo prog 48 [.inBlock 2, .code C24_54] ρ [] aw (RR prog f24 48 sh24 Q E) := by
  unfold S24_2 at H
  refine ago_inBlock ?_
  refine ago_seqE E24_54 ?_
  refine ago_regE E24_55 (l := [0, 1, 2, 3, 4, 5, 6, 7]) rfl ?_
  refine lk (dt := some 44) R24_16_N rfl rfl rfl (opv_move rfl rfl h10) ?_
  refine lk (dt := some 45) R24_16_N rfl rfl rfl (opv_move rfl rfl h0) ?_
  refine lk (dt := some 46) R24_16_N rfl rfl rfl (ov_bld (r := [.int .u8 kind_10, .string s_0, .int .i64 0]) rfl rfl bo33 (mp_cons rfl (mp_cons rfl rfl)) (fillP rfl rfl rfl rfl (fillP rfl rfl rfl rfl (fillN rfl)))) ?_
  refine lk (dt := some 47) R24_16_N rfl rfl rfl (opv_move rfl rfl h1) ?_
  obtain ⟨b2, i3, aw1, hp4, hw5, ho6, ha7, H⟩ := H
  refine lk (dt := none) R24_16_N rfl rfl rfl (ov_st rfl rfl rfl h4 rfl rfl sz33 hp4 hw5 ho6 ha7) ?_
  refine lk (dt := some 5) R24_16_N rfl rfl rfl (opv_assign rfl rfl rfl) ?_
  refine lk (dt := some 6) R24_16_N rfl rfl rfl (opv_assign rfl rfl rfl) ?_
  refine lk (dt := some 7) R24_16_N rfl rfl rfl (opv_assign rfl rfl rfl) ?_
  refine aops_nil ?_
  obtain ⟨b8, i9, c11, c12, c13, hp10, hg14, hg15, hg16, H⟩ := H
  exact ago_retE E24_56 (r := (c11, c12, c13, n_1, 0, 0)) (ares_4 rfl (oneN h4 hp10 underlying33 rfl sz33 (getN_cons hg14 (getN_cons hg15 (getN_cons hg16 getN_nil)))) (oneT rfl) (oneT rfl) (oneT rfl)) rfl H
set_option maxHeartbeats 4000000 in
set_option maxRecDepth 100000 in
theorem S24_1s_ok (Q : (Int × ByteArray × Int × Int × Int × Int) → AW → Prop) (E : List PanicEntry → AW → Prop)  (nx1 : ByteArray → Int → Value → List Value → Int → AW → Prop) (L1 : ∀ (ρ : Env) (s_0 : ByteArray) (n_1 : Int) (t_4 : Value) (t_14 : List Value) (t_15 : Int) (aw : AW) (h0 : ρ 0 = .string s_0) (h1 : ρ 1 = .int .i64 n_1) (h4 : ρ 4 = t_4) (h14 : ρ 14 = .agg t_14.toArray) (h15 : ρ 15 = .int .i64 t_15), nx1 s_0 n_1 t_4 t_14 t_15 aw → AGo prog 48 [.code C24_15, .inLoop C24_15, .inBlock 0, .code C24_33] ρ [] aw (RR prog f24 48 sh24 Q E)) (ρ : Env) (s_0 : ByteArray) (n_1 : Int) (t_4 : Value) (t_14 : List Value) (t_15 : Int) (aw : AW) (h0 : ρ 0 = .string s_0) (h1 : ρ 1 = .int .i64 n_1) (h4 : ρ 4 = t_4) (h14 : ρ 14 = .agg t_14.toArray) (h15 : ρ 15 = .int .i64 t_15) (H : S24_1s Q E  nx1 s_0 n_1 t_4 t_14 t_15 aw) :
    AGo prog 48 [.code C24_15, .inLoop C24_15, .inBlock 0, .code C24_33] ρ [] aw (RR prog f24 48 sh24 Q E) := by
  unfold S24_1s at H
  refine ago_seqE E24_15 ?_
  refine ago_regE E24_16 (l := [0]) rfl ?_
  refine lk (dt := some 16) R24_4_N rfl rfl rfl (opv_lt rfl rfl rfl h15 rfl) ?_
  refine aops_nil ?_
  refine ago_seqE E24_17 ?_
  refine ago_condE  E24_18 rfl rfl (fun hb17 => ?_) (fun hb17 => ?_)
  · replace H := cnd_t H hb17
    refine ago_skipE E24_19 ?_
    refine ago_seqE E24_21 ?_
    refine ago_blockE E24_22 ?_
    refine ago_seqE E24_23 ?_
    refine ago_regE E24_24 (l := [0, 1]) rfl ?_
    obtain ⟨hl22, h019, c18, hv21, H⟩ := H
    refine lk (dt := some 17) R24_5_N rfl rfl rfl (ov_el rfl rfl rfl underlying51 underlying9 rfl sz9 h14 h15 hl22 h019 hv21) ?_
    refine lk (dt := some 9) R24_5_N rfl rfl rfl (opv_assign rfl rfl rfl) ?_
    refine aops_nil ?_
    refine ago_seqE E24_25 ?_
    refine ago_regE E24_26 (l := [0, 1, 2]) rfl ?_
    refine lk (dt := some 18) R24_6_N rfl rfl rfl (opv_move rfl rfl rfl) ?_
    refine lk (dt := some 19) R24_6_N rfl rfl rfl (opv_move rfl rfl h0) ?_
    refine lk (dt := some 20) R24_6_N rfl rfl rfl (opv_eqS rfl rfl rfl rfl rfl) ?_
    refine aops_nil ?_
    refine ago_condE  E24_27 rfl rfl (fun hb23 => ?_) (fun hb23 => ?_)
    · replace H := cnd_t H hb23
      refine ago_seqE E24_28 ?_
      refine ago_regE E24_29 (l := [0, 1, 2, 3, 4, 5, 6]) rfl ?_
      refine lk (dt := some 21) R24_7_N rfl rfl rfl (opv_move rfl rfl h0) ?_
      refine lk (dt := some 22) R24_7_N rfl rfl rfl (ov_bld (r := [.int .u8 6, .string s_0, .int .i64 0]) rfl rfl bo33 (mp_cons rfl (mp_cons rfl rfl)) (fillP rfl rfl rfl rfl (fillP rfl rfl rfl rfl (fillN rfl)))) ?_
      refine lk (dt := some 23) R24_7_N rfl rfl rfl (opv_move rfl rfl h1) ?_
      obtain ⟨b25, i26, aw24, hp27, hw28, ho29, ha30, H⟩ := H
      refine lk (dt := none) R24_7_N rfl rfl rfl (ov_st rfl rfl rfl h4 rfl rfl sz33 hp27 hw28 ho29 ha30) ?_
      refine lk (dt := some 5) R24_7_N rfl rfl rfl (opv_assign rfl rfl rfl) ?_
      refine lk (dt := some 6) R24_7_N rfl rfl rfl (opv_assign rfl rfl rfl) ?_
      refine lk (dt := some 7) R24_7_N rfl rfl rfl (opv_assign rfl rfl rfl) ?_
      refine aops_nil ?_
      obtain ⟨b31, i32, c34, c35, c36, hp33, hg37, hg38, hg39, H⟩ := H
      exact ago_retE E24_30 (r := (c34, c35, c36, n_1, 0, 0)) (ares_4 rfl (oneN h4 hp33 underlying33 rfl sz33 (getN_cons hg37 (getN_cons hg38 (getN_cons hg39 getN_nil)))) (oneT rfl) (oneT rfl) (oneT rfl)) rfl H
    · replace H := cnd_f H hb23
      refine ago_skipE E24_31 ?_
      refine ago_inBlock ?_
      refine ago_regE E24_32 (l := [0, 1]) rfl ?_
      refine lk (dt := some 24) R24_8_N rfl rfl rfl (opv_add rfl rfl rfl h15 rfl) ?_
      refine lk (dt := some 15) R24_8_N rfl rfl rfl (opv_move rfl rfl rfl) ?_
      refine aops_nil ?_
      refine ago_inLoop ?_
      exact L1 _ s_0 n_1 t_4 t_14 (IntKind.i64.wrap (t_15 + 1)) aw h0 h1 h4 h14 rfl H
  · replace H := cnd_f H hb17
    refine ago_exitE E24_20 rfl ?_
    refine ago_seqE E24_33 ?_
    refine ago_regE E24_34 (l := [0]) rfl ?_
    refine lk (dt := some 10) R24_9_N rfl rfl rfl (opv_assign rfl rfl rfl) ?_
    refine aops_nil ?_
    refine ago_seqE E24_35 ?_
    refine ago_blockE E24_36 ?_
    refine ago_seqE E24_37 ?_
    refine ago_regE E24_38 (l := [0, 1, 2, 3]) rfl ?_
    refine lk (dt := some 26) R24_10_N rfl rfl rfl (opv_move rfl rfl h0) ?_
    obtain ⟨c40, h041, hj42, hv43, H⟩ := H
    refine lk (dt := some 27) R24_10_N rfl rfl rfl (ov_chr rfl rfl rfl underlying9 rfl rfl h041 hj42 hv43) ?_
    refine lk (dt := some 28) R24_10_N rfl rfl rfl (opv_eqI rfl rfl rfl rfl rfl) ?_
    refine lk (dt := some 25) R24_10_N rfl rfl rfl (opv_assign rfl rfl rfl) ?_
    refine aops_nil ?_
    refine ago_condE  E24_39 rfl rfl (fun hb44 => ?_) (fun hb44 => ?_)
    · replace H := cnd_t H hb44
      refine ago_seqE E24_40 ?_
      refine ago_seqE E24_41 ?_
      refine ago_regE E24_42 (l := [0, 1, 2, 3, 4, 5, 6, 7]) rfl ?_
      refine lk (dt := some 29) R24_11_N rfl rfl rfl (opv_move rfl rfl h1) ?_
      refine lk (dt := some 30) R24_11_N rfl rfl rfl (opv_lt rfl rfl rfl rfl rfl) ?_
      refine lk (dt := some 31) R24_11_N rfl rfl rfl (opv_move rfl rfl rfl) ?_
      rcases Bool.eq_false_or_eq_true (decide (n_1 < 2)) with hb45 | hb45
      · replace H := cnd_t H hb45
        refine lk_skip (dt := some 32) R24_11_N rfl rfl ⟨_, rfl, .inl ⟨_, rfl, gq hb45 rfl⟩⟩ ?_
        refine lk_skip (dt := some 33) R24_11_N rfl rfl ⟨_, rfl, .inl ⟨_, rfl, gq hb45 rfl⟩⟩ ?_
        refine lk_skip (dt := some 34) R24_11_N rfl rfl ⟨_, rfl, .inl ⟨_, rfl, gq hb45 rfl⟩⟩ ?_
        refine lk_skip (dt := some 35) R24_11_N rfl rfl ⟨_, rfl, .inl ⟨_, rfl, gq hb45 rfl⟩⟩ ?_
        refine lk (dt := some 36) R24_11_N rfl rfl rfl (ov_pickT rfl rfl rfl rfl rfl hb45 rfl) ?_
        refine aops_nil ?_
        refine ago_condE  E24_43 rfl rfl (fun h => ?_) (fun h => tf h)
        refine ago_seqE E24_44 ?_
        refine ago_cut (fun ρ => ρ 1 = .int .i64 n_1 ∧ ρ 4 = t_4 ∧ True) ⟨h1, h4, trivial⟩ (fun ρ ⟨h1, h4, _⟩ => ?_)
        refine ago_regE E24_45 (l := [0, 1, 2, 3, 4, 5, 6]) rfl ?_
        refine lk (dt := some 37) R24_12_N rfl rfl rfl (ov_bld (r := [.int .u8 0, .string (⟨#[]⟩ : ByteArray), .int .i64 0]) rfl rfl bo33 rfl (fillN rfl)) ?_
        refine lk (dt := some 38) R24_12_N rfl rfl rfl (opv_move rfl rfl h1) ?_
        refine lk (dt := some 39) R24_12_N rfl rfl rfl (opv_min rfl rfl rfl rfl rfl) ?_
        obtain ⟨b48, i49, aw47, hp50, hw51, ho52, ha53, H⟩ := H
        refine lk (dt := none) R24_12_N rfl rfl rfl (ov_st rfl rfl rfl h4 rfl rfl sz33 hp50 hw51 ho52 ha53) ?_
        refine lk (dt := some 5) R24_12_N rfl rfl rfl (opv_assign rfl rfl rfl) ?_
        refine lk (dt := some 6) R24_12_N rfl rfl rfl (opv_assign rfl rfl rfl) ?_
        refine lk (dt := some 7) R24_12_N rfl rfl rfl (opv_assign rfl rfl rfl) ?_
        refine aops_nil ?_
        obtain ⟨b54, i55, c57, c58, c59, hp56, hg60, hg61, hg62, H⟩ := H
        exact ago_retE E24_46 (r := (c57, c58, c59, 0, (min n_1 1), 4)) (ares_4 rfl (oneN h4 hp56 underlying33 rfl sz33 (getN_cons hg60 (getN_cons hg61 (getN_cons hg62 getN_nil)))) (oneT rfl) (oneT rfl) (oneT rfl)) rfl H
      · replace H := cnd_f H hb45
        refine lk (dt := some 32) R24_11_N rfl rfl ⟨_, rfl, .inl ⟨_, rfl, gq hb45 rfl⟩⟩ (opv_move rfl rfl h0) ?_
        obtain ⟨c63, h064, hj65, hv66, H⟩ := H
        refine lk (dt := some 33) R24_11_N rfl rfl ⟨_, rfl, .inl ⟨_, rfl, gq hb45 rfl⟩⟩ (ov_chr rfl rfl rfl underlying9 rfl rfl h064 hj65 hv66) ?_
        refine lk_call (dt := some 34) R24_11_N rfl rfl ⟨_, rfl, .inl ⟨_, rfl, gq hb45 rfl⟩⟩ (opc_of rfl rfl is21 (ma_cons rfl rfl)) H (fun _ _ h => ⟨rfl, h⟩) fun r67 aw68 H => ?_
        refine lk (dt := some 35) R24_11_N rfl rfl ⟨_, rfl, .inl ⟨_, rfl, gq hb45 rfl⟩⟩ (opv_not rfl rfl rfl) ?_
        refine lk (dt := some 36) R24_11_N rfl rfl rfl (ov_pickF rfl rfl rfl rfl rfl hb45 rfl) ?_
        refine aops_nil ?_
        refine ago_condE  E24_43 rfl rfl (fun hb69 => ?_) (fun hb69 => ?_)
        · replace H := cnd_t H hb69
          refine ago_seqE E24_44 ?_
          refine ago_cut (fun ρ => ρ 1 = .int .i64 n_1 ∧ ρ 4 = t_4 ∧ True) ⟨h1, h4, trivial⟩ (fun ρ ⟨h1, h4, _⟩ => ?_)
          refine ago_regE E24_45 (l := [0, 1, 2, 3, 4, 5, 6]) rfl ?_
          refine lk (dt := some 37) R24_12_N rfl rfl rfl (ov_bld (r := [.int .u8 0, .string (⟨#[]⟩ : ByteArray), .int .i64 0]) rfl rfl bo33 rfl (fillN rfl)) ?_
          refine lk (dt := some 38) R24_12_N rfl rfl rfl (opv_move rfl rfl h1) ?_
          refine lk (dt := some 39) R24_12_N rfl rfl rfl (opv_min rfl rfl rfl rfl rfl) ?_
          obtain ⟨b71, i72, aw70, hp73, hw74, ho75, ha76, H⟩ := H
          refine lk (dt := none) R24_12_N rfl rfl rfl (ov_st rfl rfl rfl h4 rfl rfl sz33 hp73 hw74 ho75 ha76) ?_
          refine lk (dt := some 5) R24_12_N rfl rfl rfl (opv_assign rfl rfl rfl) ?_
          refine lk (dt := some 6) R24_12_N rfl rfl rfl (opv_assign rfl rfl rfl) ?_
          refine lk (dt := some 7) R24_12_N rfl rfl rfl (opv_assign rfl rfl rfl) ?_
          refine aops_nil ?_
          obtain ⟨b77, i78, c80, c81, c82, hp79, hg83, hg84, hg85, H⟩ := H
          exact ago_retE E24_46 (r := (c80, c81, c82, 0, (min n_1 1), 4)) (ares_4 rfl (oneN h4 hp79 underlying33 rfl sz33 (getN_cons hg83 (getN_cons hg84 (getN_cons hg85 getN_nil)))) (oneT rfl) (oneT rfl) (oneT rfl)) rfl H
        · replace H := cnd_f H hb69
          refine ago_skipE E24_47 ?_
          refine ago_cut (fun ρ => ρ 0 = .string s_0 ∧ ρ 1 = .int .i64 n_1 ∧ ρ 4 = t_4 ∧ True) ⟨h0, h1, h4, trivial⟩ (fun ρ ⟨h0, h1, h4, _⟩ => ?_)
          refine ago_regE E24_48 (l := [0]) rfl ?_
          refine lk (dt := some 10) R24_13_N rfl rfl rfl (opv_assign rfl rfl rfl) ?_
          refine aops_nil ?_
          exact S24_2_ok Q E  _ s_0 n_1 t_4 3 aw68 h0 h1 h4 rfl H
    · replace H := cnd_f H hb44
      refine ago_seqE E24_49 ?_
      refine ago_regE E24_50 (l := [0, 1, 2, 3]) rfl ?_
      refine lk (dt := some 41) R24_14_N rfl rfl rfl (opv_move rfl rfl h0) ?_
      obtain ⟨c86, h087, hj88, hv89, H⟩ := H
      refine lk (dt := some 42) R24_14_N rfl rfl rfl (ov_chr rfl rfl rfl underlying9 rfl rfl h087 hj88 hv89) ?_
      refine lk_call (dt := some 43) R24_14_N rfl rfl rfl (opc_of rfl rfl is22 (ma_cons rfl rfl)) H (fun _ _ h => ⟨rfl, h⟩) fun r90 aw91 H => ?_
      refine lk (dt := some 40) R24_14_N rfl rfl rfl (opv_assign rfl rfl rfl) ?_
      refine aops_nil ?_
      refine ago_condE  E24_51 rfl rfl (fun hb92 => ?_) (fun hb92 => ?_)
      · replace H := cnd_t H hb92
        refine ago_regE E24_52 (l := [0]) rfl ?_
        refine lk (dt := some 10) R24_15_N rfl rfl rfl (opv_assign rfl rfl rfl) ?_
        refine aops_nil ?_
        exact S24_2_ok Q E  _ s_0 n_1 t_4 2 aw91 h0 h1 h4 rfl H
      · replace H := cnd_f H hb92
        refine ago_skipE E24_53 ?_
        exact S24_2_ok Q E  _ s_0 n_1 t_4 1 aw91 h0 h1 h4 rfl H
theorem S24_1_ok (Q : (Int × ByteArray × Int × Int × Int × Int) → AW → Prop) (E : List PanicEntry → AW → Prop)  : ∀ (n : Nat) (ρ : Env) (s_0 : ByteArray) (n_1 : Int) (t_4 : Value) (t_14 : List Value) (t_15 : Int) (aw : AW) (h0 : ρ 0 = .string s_0) (h1 : ρ 1 = .int .i64 n_1) (h4 : ρ 4 = t_4) (h14 : ρ 14 = .agg t_14.toArray) (h15 : ρ 15 = .int .i64 t_15), S24_1 Q E  n s_0 n_1 t_4 t_14 t_15 aw →
    AGo prog 48 [.code C24_15, .inLoop C24_15, .inBlock 0, .code C24_33] ρ [] aw (RR prog f24 48 sh24 Q E)
  | 0, _, _, _, _, _, _, _, _, _, _, _, _ => fun H => H.elim
  | n + 1, ρ, s_0, n_1, t_4, t_14, t_15, aw, h0, h1, h4, h14, h15 => fun H => S24_1s_ok Q E  _ (S24_1_ok Q E  n) ρ s_0 n_1 t_4 t_14 t_15 aw h0 h1 h4 h14 h15 H
set_option maxHeartbeats 4000000 in
set_option maxRecDepth 100000 in
theorem S24_0_ok (Q : (Int × ByteArray × Int × Int × Int × Int) → AW → Prop) (E : List PanicEntry → AW → Prop)  (ρ : Env) (s_0 : ByteArray) (n_1 : Int) (aw : AW) (h0 : ρ 0 = .string s_0) (h1 : ρ 1 = .int .i64 n_1) (H : S24_0 Q E  s_0 n_1 aw) :
    AGo prog 48 [.code C24_0] ρ [] aw (RR prog f24 48 sh24 Q E) := by
  unfold S24_0 at H
  refine ago_seqE E24_0 ?_
  refine ago_regE E24_1 (l := [0, 1, 2, 3]) rfl ?_
  obtain ⟨p93, aw94, hp95, ha96, H⟩ := H
  refine lk (dt := some 4) R24_0_N rfl rfl rfl (ov_alloc rfl z33 rfl rfl hp95 ha96) ?_
  refine lk (dt := some 5) R24_0_N rfl rfl rfl (opv_assign rfl rfl rfl) ?_
  refine lk (dt := some 6) R24_0_N rfl rfl rfl (opv_assign rfl rfl rfl) ?_
  refine lk (dt := some 7) R24_0_N rfl rfl rfl (opv_assign rfl rfl rfl) ?_
  refine aops_nil ?_
  refine ago_seqE E24_2 ?_
  refine ago_seqE E24_3 ?_
  refine ago_regE E24_4 (l := [0, 1]) rfl ?_
  refine lk (dt := some 11) R24_1_N rfl rfl rfl (opv_move rfl rfl h1) ?_
  refine lk (dt := some 12) R24_1_N rfl rfl rfl (opv_gt rfl rfl rfl rfl rfl) ?_
  refine aops_nil ?_
  refine ago_condE  E24_5 rfl rfl (fun hb97 => ?_) (fun hb97 => ?_)
  · replace H := cnd_t H hb97
    refine ago_seqE E24_6 ?_
    refine ago_regE E24_7 (l := [0, 1, 2, 3, 4]) rfl ?_
    refine lk (dt := some 13) R24_2_N rfl rfl rfl (ov_bld (r := [.int .u8 0, .string (⟨#[]⟩ : ByteArray), .int .i64 0]) rfl rfl bo33 rfl (fillN rfl)) ?_
    obtain ⟨b99, i100, aw98, hp101, hw102, ho103, ha104, H⟩ := H
    refine lk (dt := none) R24_2_N rfl rfl rfl (ov_st rfl rfl rfl rfl rfl rfl sz33 hp101 hw102 ho103 ha104) ?_
    refine lk (dt := some 5) R24_2_N rfl rfl rfl (opv_assign rfl rfl rfl) ?_
    refine lk (dt := some 6) R24_2_N rfl rfl rfl (opv_assign rfl rfl rfl) ?_
    refine lk (dt := some 7) R24_2_N rfl rfl rfl (opv_assign rfl rfl rfl) ?_
    refine aops_nil ?_
    obtain ⟨b105, i106, c108, c109, c110, hp107, hg111, hg112, hg113, H⟩ := H
    exact ago_retE E24_8 (r := (c108, c109, c110, 0, 0, 2)) (ares_4 rfl (oneN rfl hp107 underlying33 rfl sz33 (getN_cons hg111 (getN_cons hg112 (getN_cons hg113 getN_nil)))) (oneT rfl) (oneT rfl) (oneT rfl)) rfl H
  · replace H := cnd_f H hb97
    refine ago_skipE E24_9 ?_
    refine ago_seqE E24_10 ?_
    refine ago_seqE E24_11 ?_
    refine ago_regE E24_12 (l := [0, 1]) rfl ?_
    obtain ⟨b114, i115, x117, hp116, hg118, H⟩ := H
    refine lk (dt := some 14) R24_3_N rfl rfl rfl (ov_ldN rfl underlying51 rfl sz51 rfl rfl hp116 hg118) ?_
    refine lk (dt := some 15) R24_3_N rfl rfl rfl (opv_move rfl rfl rfl) ?_
    refine aops_nil ?_
    refine ago_blockE E24_13 ?_
    refine ago_loopE E24_14 ?_
    obtain ⟨n, H⟩ := H
    exact S24_1_ok Q E  n _ s_0 n_1 p93 x117 0 aw94 h0 h1 rfl rfl rfl H
theorem F24_ok {Q : (Int × ByteArray × Int × Int × Int × Int) → AW → Prop} {E : List PanicEntry → AW → Prop} (s_0 : ByteArray) (n_1 : Int) (aw : AW) (H : S24_0 Q E s_0 n_1 aw) : CallP prog 24 [.string s_0, .int .i64 n_1] aw sh24 Q E :=
  callP_of func24 C24_is rfl (Nat.le_of_ble_eq_true rfl) (S24_0_ok Q E _ s_0 n_1 aw rfl rfl H)
/-! ### (*strings.Builder).copyCheck: function 38 -/
noncomputable def C38_0 : Code := bodyOf f38
theorem C38_is : f38.body = some C38_0 := by kernel_rfl
noncomputable def C38_1 : Code := cl C38_0
noncomputable def R38_0 : Array Oper := regOps C38_1
noncomputable def C38_2 : Code := cr C38_0
noncomputable def C38_3 : Code := cl C38_2
noncomputable def R38_1 : Array Oper := regOps C38_3
noncomputable def C38_4 : Code := cr C38_2
noncomputable def C38_5 : Code := cl C38_4
noncomputable def R38_2 : Array Oper := regOps C38_5
noncomputable def C38_6 : Code := cr C38_4
noncomputable def C38_7 : Code := cl C38_6
noncomputable def C38_8 : Code := cr C38_6
theorem R38_0_N : dstsOk 20 R38_0 = true := by decide +kernel
theorem E38_1 : C38_1 = .region 0 R38_0 false := rfl
theorem R38_1_N : dstsOk 20 R38_1 = true := by decide +kernel
theorem E38_3 : C38_3 = .region 1 R38_1 false := rfl
theorem R38_2_N : dstsOk 20 R38_2 = true := by decide +kernel
theorem E38_5 : C38_5 = .region 2 R38_2 false := rfl
theorem E38_8 : C38_8 = .skip := rfl
theorem E38_6 : C38_6 = .cond (.tmp 19) C38_7 C38_8 := rfl
theorem E38_4 : C38_4 = .seq C38_5 C38_6 := rfl
theorem E38_2 : C38_2 = .cond (.tmp 6) C38_3 C38_4 := rfl
theorem E38_0 : C38_0 = .seq C38_1 C38_2 := rfl
def S38_0 (Q : Unit → AW → Prop) (E : List PanicEntry → AW → Prop)  (b_0 : Value) (aw : AW) : Prop :=
  nck b_0 (fldA b_0 0 fun p2 =>
  ldV aw p2 fun x10 =>
  nilB (.pointer 55) x10 (.pointer none) fun q12 =>
  cnd q12 (Whole aw 55 2 b_0 ∧ Whole aw 55 2 b_0 ∧ nck b_0 (fldA b_0 0 fun p19 =>
  st aw p19 [b_0] fun aw24 =>
  Q () aw24)) (nck b_0 (fldA b_0 0 fun p32 =>
  ldV aw p32 fun x40 =>
  (x40 = b_0 ∧ ∃ b i, x40 = .pointer (some ⟨b, i, none⟩)) ∧ Q () aw)))
set_option maxHeartbeats 4000000 in
set_option maxRecDepth 100000 in
theorem S38_0_ok (Q : Unit → AW → Prop) (E : List PanicEntry → AW → Prop)  (ρ : Env) (b_0 : Value) (aw : AW) (h0 : ρ 0 = b_0) (H : S38_0 Q E  b_0 aw) :
    AGo prog 20 [.code C38_0] ρ [] aw (RR prog f38 20 sh38 Q E) := by
  unfold S38_0 at H
  refine ago_seqE E38_0 ?_
  refine ago_regE E38_1 (l := [0, 1, 2, 3, 4]) rfl ?_
  refine lk (dt := some 2) R38_0_N rfl rfl rfl (opv_move rfl rfl h0) ?_
  obtain ⟨hp1, H⟩ := H
  refine lk (dt := some 3) R38_0_N rfl rfl rfl (ov_nck rfl rfl rfl hp1) ?_
  obtain ⟨b3, i4, p2, hp5, hv6, H⟩ := H
  refine lk (dt := some 4) R38_0_N rfl rfl rfl (ov_fldA rfl rfl underlying55 rfl sz53 (by decide) rfl hp5 rfl hv6) ?_
  obtain ⟨b7, i8, x10, hp9, hg11, H⟩ := H
  refine lk (dt := some 5) R38_0_N rfl rfl rfl (ov_ldV rfl underlying53 rfl rfl rfl hp9 hg11) ?_
  obtain ⟨q12, hf13, hq14, H⟩ := H
  refine lk (dt := some 6) R38_0_N rfl rfl rfl (ov_eqNil rfl rfl underlying53 rfl hf13 hq14) ?_
  refine aops_nil ?_
  refine ago_condE  E38_2 rfl rfl (fun hb15 => ?_) (fun hb15 => ?_)
  · replace H := cnd_t H hb15
    refine ago_regE E38_3 (l := [0, 1, 2, 3, 4, 5, 6, 7]) rfl ?_
    refine lk (dt := some 7) R38_1_N rfl rfl rfl (opv_move rfl rfl h0) ?_
    refine lk (dt := some 8) R38_1_N rfl rfl rfl (opv_move rfl rfl h0) ?_
    obtain ⟨hp16, H⟩ := H
    refine lk (dt := some 9) R38_1_N rfl rfl rfl (ov_toU rfl rfl underlying53 underlying73 sz55 rfl hp16) ?_
    refine lk (dt := some 10) R38_1_N rfl rfl rfl (ov_noEsc rfl rfl ext44 (ma_cons rfl rfl)) ?_
    obtain ⟨hp17, H⟩ := H
    refine lk (dt := some 11) R38_1_N rfl rfl rfl (ov_fromU rfl rfl underlying73 underlying53 sz55 rfl hp17 lies55) ?_
    obtain ⟨hp18, H⟩ := H
    refine lk (dt := some 12) R38_1_N rfl rfl rfl (ov_nck rfl rfl rfl hp18) ?_
    obtain ⟨b20, i21, p19, hp22, hv23, H⟩ := H
    refine lk (dt := some 13) R38_1_N rfl rfl rfl (ov_fldA rfl rfl underlying55 rfl sz53 (by decide) rfl hp22 rfl hv23) ?_
    obtain ⟨b25, i26, aw24, hp27, hw28, ho29, ha30, H⟩ := H
    refine lk (dt := none) R38_1_N rfl rfl rfl (ov_st rfl rfl rfl rfl rfl (cells_all ho29) sz53 hp27 hw28 ho29 ha30) ?_
    refine aops_nil ?_
    exact ago_nilR (r := ()) (ares_0 rfl ) rfl H
  · replace H := cnd_f H hb15
    refine ago_seqE E38_4 ?_
    refine ago_regE E38_5 (l := [0, 1, 2, 3, 4, 5]) rfl ?_
    refine lk (dt := some 14) R38_2_N rfl rfl rfl (opv_move rfl rfl h0) ?_
    obtain ⟨hp31, H⟩ := H
    refine lk (dt := some 15) R38_2_N rfl rfl rfl (ov_nck rfl rfl rfl hp31) ?_
    obtain ⟨b33, i34, p32, hp35, hv36, H⟩ := H
    refine lk (dt := some 16) R38_2_N rfl rfl rfl (ov_fldA rfl rfl underlying55 rfl sz53 (by decide) rfl hp35 rfl hv36) ?_
    obtain ⟨b37, i38, x40, hp39, hg41, H⟩ := H
    refine lk (dt := some 17) R38_2_N rfl rfl rfl (ov_ldV rfl underlying53 rfl rfl rfl hp39 hg41) ?_
    refine lk (dt := some 18) R38_2_N rfl rfl rfl (opv_move rfl rfl h0) ?_
    obtain ⟨hq42, H⟩ := H
    refine lk (dt := some 19) R38_2_N rfl rfl rfl (ov_nePS rfl rfl rfl underlying53 sz55 rfl rfl hq42) ?_
    refine aops_nil ?_
    refine ago_condE  E38_6 rfl rfl (fun h => ft h) (fun h => ?_)
    refine ago_skipE E38_8 ?_
    exact ago_nilR (r := ()) (ares_0 rfl ) rfl H
theorem F38_ok {Q : Unit → AW → Prop} {E : List PanicEntry → AW → Prop} (b_0 : Value) (aw : AW) (H : S38_0 Q E b_0 aw) : CallP prog 38 [b_0] aw sh38 Q E :=
  callP_of func38 C38_is rfl (Nat.le_of_ble_eq_true rfl) (S38_0_ok Q E _ b_0 aw rfl H)
/-! ### (*strings.Builder).WriteByte: function 32 -/
noncomputable def C32_0 : Code := bodyOf f32
theorem C32_is : f32.body = some C32_0 := by kernel_rfl
noncomputable def C32_1 : Code := cl C32_0
noncomputable def R32_0 : Array Oper := regOps C32_1
noncomputable def C32_2 : Code := cr C32_0
noncomputable def C32_3 : Code := cl C32_2
noncomputable def R32_1 : Array Oper := regOps C32_3
noncomputable def C32_4 : Code := cr C32_2
noncomputable def C32_5 : Code := cl C32_4
noncomputable def R32_2 : Array Oper := regOps C32_5
noncomputable def C32_6 : Code := cr C32_4
noncomputable def C32_7 : Code := cl C32_6
noncomputable def R32_3 : Array Oper := regOps C32_7
noncomputable def C32_8 : Code := cr C32_6
theorem R32_0_N : dstsOk 17 R32_0 = true := by decide +kernel
theorem E32_1 : C32_1 = .region 0 R32_0 false := rfl
theorem R32_1_N : dstsOk 17 R32_1 = true := by decide +kernel
theorem E32_3 : C32_3 = .region 1 R32_1 false := rfl
theorem R32_2_N : dstsOk 17 R32_2 = true := by decide +kernel
theorem E32_5 : C32_5 = .region 2 R32_2 false := rfl
theorem R32_3_N : dstsOk 17 R32_3 = true := by decide +kernel
theorem E32_7 : C32_7 = .region 3 R32_3 false := rfl
theorem E32_8 : C32_8 = .ret := rfl
theorem E32_6 : C32_6 = .seq C32_7 C32_8 := rfl
theorem E32_4 : C32_4 = .seq C32_5 C32_6 := rfl
theorem E32_2 : C32_2 = .seq C32_3 C32_4 := rfl
theorem E32_0 : C32_0 = .seq C32_1 C32_2 := rfl
def S32_0 (Q : Value → AW → Prop) (E : List PanicEntry → AW → Prop)  (b_0 : Value) (c_1 : Int) (aw : AW) : Prop :=
  CallP prog 38 [b_0] aw sh38 (fun r1 aw2 =>
  nck b_0 (fldA b_0 1 fun p4 =>
  ldV aw2 p4 fun x12 =>
  alcS aw2 [.int .u8 c_1] 5 1 1 fun p14 aw15 =>
  app aw15 5 1 1 x12 p14 fun v18 aw19 =>
  nck b_0 (fldA b_0 1 fun p22 =>
  st aw19 p22 [v18] fun aw27 =>
  Q (.nilIface ) aw27))) E
set_option maxHeartbeats 4000000 in
set_option maxRecDepth 100000 in
theorem S32_0_ok (Q : Value → AW → Prop) (E : List PanicEntry → AW → Prop)  (ρ : Env) (b_0 : Value) (c_1 : Int) (aw : AW) (h0 : ρ 0 = b_0) (h1 : ρ 1 = .int .u8 c_1) (H : S32_0 Q E  b_0 c_1 aw) :
    AGo prog 17 [.code C32_0] ρ [] aw (RR prog f32 17 sh32 Q E) := by
  unfold S32_0 at H
  refine ago_seqE E32_0 ?_
  refine ago_regE E32_1 (l := [0]) rfl ?_
  refine lk (dt := some 4) R32_0_N rfl rfl rfl (opv_assign rfl rfl rfl) ?_
  refine aops_nil ?_
  refine ago_seqE E32_2 ?_
  refine ago_regE E32_3 (l := [0, 1]) rfl ?_
  refine lk (dt := some 5) R32_1_N rfl rfl rfl (opv_move rfl rfl h0) ?_
  refine lk_call (dt := some 6) R32_1_N rfl rfl rfl (opc_of rfl rfl is38 (ma_cons rfl rfl)) H (fun _ _ h => ⟨rfl, h⟩) fun r1 aw2 H => ?_
  refine aops_nil ?_
  refine ago_seqE E32_4 ?_
  refine ago_regE E32_5 (l := [0, 1, 2, 3, 4, 5, 6, 7, 8, 9, 10]) rfl ?_
  refine lk (dt := some 7) R32_2_N rfl rfl rfl (opv_move rfl rfl h0) ?_
  refine lk (dt := some 8) R32_2_N rfl rfl rfl (opv_move rfl rfl h0) ?_
  obtain ⟨hp3, H⟩ := H
  refine lk (dt := some 9) R32_2_N rfl rfl rfl (ov_nck rfl rfl rfl hp3) ?_
  obtain ⟨b5, i6, p4, hp7, hv8, H⟩ := H
  refine lk (dt := some 10) R32_2_N rfl rfl rfl (ov_fldA rfl rfl underlying55 rfl sz30 (by decide) rfl hp7 rfl hv8) ?_
  obtain ⟨b9, i10, x12, hp11, hg13, H⟩ := H
  refine lk (dt := some 11) R32_2_N rfl rfl rfl (ov_ldV rfl underlying30 rfl rfl rfl hp11 hg13) ?_
  refine lk (dt := some 12) R32_2_N rfl rfl rfl (opv_move rfl rfl h1) ?_
  obtain ⟨p14, aw15, hp16, ha17, H⟩ := H
  refine lk (dt := some 13) R32_2_N rfl rfl rfl (ov_bsA (r := [.int .u8 c_1]) (vs := [.int .u8 c_1]) rfl rfl underlying30 sz5 z5 rfl rfl rfl rfl rfl (mp_cons rfl rfl) (.one rfl .nil) hp16 ha17) ?_
  obtain ⟨v18, aw19, hq20, H⟩ := H
  refine lk (dt := some 14) R32_2_N rfl rfl rfl (ov_app rfl rfl rfl rfl underlying30 sz5 by5 underlying30 rfl z5 rfl (by decide) (by decide) rfl rfl hq20) ?_
  obtain ⟨hp21, H⟩ := H
  refine lk (dt := some 15) R32_2_N rfl rfl rfl (ov_nck rfl rfl rfl hp21) ?_
  obtain ⟨b23, i24, p22, hp25, hv26, H⟩ := H
  refine lk (dt := some 16) R32_2_N rfl rfl rfl (ov_fldA rfl rfl underlying55 rfl sz30 (by decide) rfl hp25 rfl hv26) ?_
  obtain ⟨b28, i29, aw27, hp30, hw31, ho32, ha33, H⟩ := H
  refine lk (dt := none) R32_2_N rfl rfl rfl (ov_st rfl rfl rfl rfl rfl (cells_all ho32) sz30 hp30 hw31 ho32 ha33) ?_
  refine aops_nil ?_
  refine ago_seqE E32_6 ?_
  refine ago_regE E32_7 (l := [0]) rfl ?_
  refine lk (dt := some 4) R32_3_N rfl rfl rfl (opv_assign rfl rfl rfl) ?_
  refine aops_nil ?_
  exact ago_retE E32_8 (r := (.nilIface )) (ares_1 rfl (oneT rfl)) rfl H
theorem F32_ok {Q : Value → AW → Prop} {E : List PanicEntry → AW → Prop} (b_0 : Value) (c_1 : Int) (aw : AW) (H : S32_0 Q E b_0 c_1 aw) : CallP prog 32 [b_0, .int .u8 c_1] aw sh32 Q E :=
  callP_of func32 C32_is rfl (Nat.le_of_ble_eq_true rfl) (S32_0_ok Q E _ b_0 c_1 aw rfl rfl H)
/-! ### (*strings.Builder).String: function 31 -/
noncomputable def C31_0 : Code := bodyOf f31
theorem C31_is : f31.body = some C31_0 := by kernel_rfl
noncomputable def C31_1 : Code := cl C31_0
noncomputable def R31_0 : Array Oper := regOps C31_1
noncomputable def C31_2 : Code := cr C31_0
noncomputable def C31_3 : Code := cl C31_2
noncomputable def R31_1 : Array Oper := regOps C31_3
noncomputable def C31_4 : Code := cr C31_2
theorem R31_0_N : dstsOk 14 R31_0 = true := by decide +kernel
theorem E31_1 : C31_1 = .region 0 R31_0 false := rfl
theorem R31_1_N : dstsOk 14 R31_1 = true := by decide +kernel
theorem R31_1_O : drawOk R31_1 [0, 1, 2, 3, 4, 5, 6, 7, 8, 9] [] = true := by decide +kernel
theorem E31_3 : C31_3 = .region 1 R31_1 true := rfl
theorem E31_4 : C31_4 = .ret := rfl
theorem E31_2 : C31_2 = .seq C31_3 C31_4 := rfl
theorem E31_0 : C31_0 = .seq C31_1 C31_2 := rfl
def S31_0 (Q : ByteArray → AW → Prop) (E : List PanicEntry → AW → Prop)  (b_0 : Value) (aw : AW) : Prop :=
  nck b_0 (fldA b_0 1 fun p2 =>
  ldV aw p2 fun x10 =>
  usd x10 fun p12 =>
  nck b_0 (fldA b_0 1 fun p16 =>
  ldV aw p16 fun x24 =>
  slen x24 fun n26 =>
  uStr prog aw 5 p12 n26 fun s32 aw33 =>
  Q s32 aw33))
set_option maxHeartbeats 4000000 in
set_option maxRecDepth 100000 in
theorem S31_0_ok (Q : ByteArray → AW → Prop) (E : List PanicEntry → AW → Prop)  (ρ : Env) (b_0 : Value) (aw : AW) (h0 : ρ 0 = b_0) (H : S31_0 Q E  b_0 aw) :
    AGo prog 14 [.code C31_0] ρ [] aw (RR prog f31 14 sh31 Q E) := by
  unfold S31_0 at H
  refine ago_seqE E31_0 ?_
  refine ago_regE E31_1 (l := [0]) rfl ?_
  refine lk (dt := some 2) R31_0_N rfl rfl rfl (opv_assign rfl rfl rfl) ?_
  refine aops_nil ?_
  refine ago_seqE E31_2 ?_
  obtain ⟨hp1, H⟩ := H
  obtain ⟨b3, i4, p2, hp5, hv6, H⟩ := H
  obtain ⟨b7, i8, x10, hp9, hg11, H⟩ := H
  obtain ⟨p12, hp13, hv14, H⟩ := H
  obtain ⟨hp15, H⟩ := H
  obtain ⟨b17, i18, p16, hp19, hv20, H⟩ := H
  obtain ⟨b21, i22, x24, hp23, hg25, H⟩ := H
  obtain ⟨q27, l28, c29, n26, hv30, hn31, H⟩ := H
  refine ago_drawE (hs := [0, 1, 2, 3, 4, 5, 6, 7, 8, 9]) (fl := []) (hv := [(0, b_0), (1, b_0), (2, p2), (3, x10), (4, p12), (5, b_0), (6, b_0), (7, p16), (8, x24), (9, Value.int .i64 n26)]) E31_3 mixed R31_1_N R31_1_O (by decide) rfl (pv_cons rfl (pv_cons rfl (pv_cons rfl (pv_cons rfl (pv_cons rfl (pv_cons rfl (pv_cons rfl (pv_cons rfl (pv_cons rfl (pv_cons rfl (pv_nil _)))))))))))
    ⟨(hd_v rfl fun ρ hρ => ⟨rfl, opv_move rfl rfl ((hρ 0 (lmem rfl)).trans h0)⟩),
    (hd_v rfl fun ρ hρ => ⟨rfl, ov_nck rfl rfl ((hρ 3 (lmem rfl)).trans rfl) hp1⟩),
    (hd_v rfl fun ρ hρ => ⟨rfl, ov_fldA rfl rfl underlying55 rfl sz30 (by decide) ((hρ 4 (lmem rfl)).trans rfl) hp5 rfl hv6⟩),
    (hd_v rfl fun ρ hρ => ⟨rfl, ov_ldV rfl underlying30 rfl rfl ((hρ 5 (lmem rfl)).trans rfl) hp9 hg11⟩),
    (hd_v rfl fun ρ hρ => ⟨rfl, ov_usd rfl rfl ((hρ 6 (lmem rfl)).trans rfl) hp13 hv14⟩),
    (hd_v rfl fun ρ hρ => ⟨rfl, opv_move rfl rfl ((hρ 0 (lmem rfl)).trans h0)⟩),
    (hd_v rfl fun ρ hρ => ⟨rfl, ov_nck rfl rfl ((hρ 8 (lmem rfl)).trans rfl) hp15⟩),
    (hd_v rfl fun ρ hρ => ⟨rfl, ov_fldA rfl rfl underlying55 rfl sz30 (by decide) ((hρ 9 (lmem rfl)).trans rfl) hp19 rfl hv20⟩),
    (hd_v rfl fun ρ hρ => ⟨rfl, ov_ldV rfl underlying30 rfl rfl ((hρ 10 (lmem rfl)).trans rfl) hp23 hg25⟩),
    (hd_v rfl fun ρ hρ => ⟨rfl, ov_len rfl rfl rfl underlying30 ((hρ 11 (lmem rfl)).trans rfl) hv30 hn31⟩),
    trivial⟩ ?_
  refine tailAll_cons (hv' := [(0, b_0), (1, b_0), (2, p2), (3, x10), (4, p12), (5, b_0), (6, b_0), (7, p16), (8, x24), (9, Value.int .i64 n26)]) rfl (pv_cons rfl (pv_cons rfl (pv_cons rfl (pv_cons rfl (pv_cons rfl (pv_cons rfl (pv_cons rfl (pv_cons rfl (pv_cons rfl (pv_cons rfl (pv_nil _))))))))))) ?_ ?_
  · skip
    refine tail_n (m := 1) (is := [10]) (by decide +kernel) (by decide +kernel) rfl ⟨?_, trivial⟩
    obtain ⟨s32, aw33, hp34, H⟩ := H
    refine lk (dt := some 13) R31_1_N rfl rfl rfl (ov_ustr rfl rfl rfl underlying66 (by kernel_rfl) rfl rfl hp34) ?_
    refine aops_nil ?_
    refine tail_n (m := 0) (is := [11]) (by decide +kernel) (by decide +kernel) rfl ⟨?_, trivial⟩
    refine lk (dt := some 2) R31_1_N rfl rfl rfl (opv_assign rfl rfl rfl) ?_
    refine aops_nil ?_
    refine tail_0 (by decide +kernel) ?_
    exact ago_retE E31_4 (r := s32) (ares_1 rfl (oneT rfl)) rfl H
  exact trivial
theorem F31_ok {Q : ByteArray → AW → Prop} {E : List PanicEntry → AW → Prop} (b_0 : Value) (aw : AW) (H : S31_0 Q E b_0 aw) : CallP prog 31 [b_0] aw sh31 Q E :=
  callP_of func31 C31_is rfl (Nat.le_of_ble_eq_true rfl) (S31_0_ok Q E _ b_0 aw rfl H)
/-! ### battledore/lex.text: function 27 -/
noncomputable def C27_0 : Code := bodyOf f27
theorem C27_is : f27.body = some C27_0 := by kernel_rfl
noncomputable def C27_1 : Code := cl C27_0
noncomputable def R27_0 : Array Oper := regOps C27_1
noncomputable def C27_2 : Code := cr C27_0
noncomputable def C27_3 : Code := cl C27_2
noncomputable def R27_1 : Array Oper := regOps C27_3
noncomputable def C27_4 : Code := cr C27_2
noncomputable def C27_5 : Code := cl C27_4
noncomputable def C27_6 : Code := cl C27_5
noncomputable def R27_2 : Array Oper := regOps C27_6
noncomputable def C27_7 : Code := cr C27_5
noncomputable def C27_8 : Code := cl C27_7
noncomputable def C27_9 : Code := cl C27_8
noncomputable def C27_10 : Code := cl C27_9
noncomputable def C27_11 : Code := cl C27_10
noncomputable def R27_3 : Array Oper := regOps C27_11
noncomputable def C27_12 : Code := cr C27_10
noncomputable def C27_13 : Code := cl C27_12
noncomputable def C27_14 : Code := cr C27_12
noncomputable def C27_15 : Code := cr C27_9
noncomputable def C27_16 : Code := cl C27_15
noncomputable def C27_17 : Code := cl C27_16
noncomputable def C27_18 : Code := cl C27_17
noncomputable def R27_5 : Array Oper := regOps C27_18
noncomputable def C27_19 : Code := cr C27_17
noncomputable def C27_20 : Code := cl C27_19
noncomputable def C27_21 : Code := cl C27_20
noncomputable def R27_7 : Array Oper := regOps C27_21
noncomputable def C27_22 : Code := cr C27_20
noncomputable def C27_23 : Code := cl C27_22
noncomputable def C27_24 : Code := cl C27_23
noncomputable def R27_8 : Array Oper := regOps C27_24
noncomputable def C27_25 : Code := cr C27_23
noncomputable def C27_26 : Code := cr C27_22
noncomputable def C27_27 : Code := cl C27_26
noncomputable def R27_9 : Array Oper := regOps C27_27
noncomputable def C27_28 : Code := cr C27_26
noncomputable def C27_29 : Code := cl C27_28
noncomputable def C27_30 : Code := cl C27_29
noncomputable def R27_10 : Array Oper := regOps C27_30
noncomputable def C27_31 : Code := cr C27_29
noncomputable def C27_32 : Code := cl C27_31
noncomputable def R27_11 : Array Oper := regOps C27_32
noncomputable def C27_33 : Code := cr C27_31
noncomputable def C27_34 : Code := cl C27_33
noncomputable def C27_35 : Code := cl C27_34
noncomputable def R27_12 : Array Oper := regOps C27_35
noncomputable def C27_36 : Code := cr C27_34
noncomputable def C27_37 : Code := cl C27_36
noncomputable def R27_13 : Array Oper := regOps C27_37
noncomputable def C27_38 : Code := cr C27_36
noncomputable def C27_39 : Code := cr C27_33
noncomputable def C27_40 : Code := cl C27_39
noncomputable def C27_41 : Code := cl C27_40
noncomputable def R27_14 : Array Oper := regOps C27_41
noncomputable def C27_42 : Code := cr C27_40
noncomputable def C27_43 : Code := cl C27_42
noncomputable def C27_44 : Code := cl C27_43
noncomputable def R27_15 : Array Oper := regOps C27_44
noncomputable def C27_45 : Code := cr C27_43
noncomputable def C27_46 : Code := cr C27_42
noncomputable def C27_47 : Code := cr C27_39
noncomputable def R27_16 : Array Oper := regOps C27_47
noncomputable def C27_48 : Code := cr C27_28
noncomputable def R27_6 : Array Oper := regOps C27_48
noncomputable def C27_49 : Code := cr C27_15
noncomputable def R27_4 : Array Oper := regOps C27_49
noncomputable def C27_50 : Code := cr C27_4
noncomputable def C27_51 : Code := cl C27_50
noncomputable def R27_17 : Array Oper := regOps C27_51
noncomputable def C27_52 : Code := cr C27_50
theorem R27_0_N : dstsOk 50 R27_0 = true := by decide +kernel
theorem E27_1 : C27_1 = .region 0 R27_0 false := rfl
theorem R27_1_N : dstsOk 50 R27_1 = true := by decide +kernel
theorem E27_3 : C27_3 = .region 1 R27_1 false := rfl
theorem R27_2_N : dstsOk 50 R27_2 = true := by decide +kernel
theorem E27_6 : C27_6 = .region 2 R27_2 false := rfl
theorem R27_3_N : dstsOk 50 R27_3 = true := by decide +kernel
theorem E27_11 : C27_11 = .region 3 R27_3 false := rfl
theorem E27_13 : C27_13 = .skip := rfl
theorem E27_14 : C27_14 = .exit 0 := rfl
theorem E27_12 : C27_12 = .cond (.tmp 12) C27_13 C27_14 := rfl
theorem E27_10 : C27_10 = .seq C27_11 C27_12 := rfl
theorem R27_5_N : dstsOk 50 R27_5 = true := by decide +kernel
theorem E27_18 : C27_18 = .region 5 R27_5 false := rfl
theorem R27_7_N : dstsOk 50 R27_7 = true := by decide +kernel
theorem E27_21 : C27_21 = .region 7 R27_7 false := rfl
theorem R27_8_N : dstsOk 50 R27_8 = true := by decide +kernel
theorem E27_24 : C27_24 = .region 8 R27_8 false := rfl
theorem E27_25 : C27_25 = .ret := rfl
theorem E27_23 : C27_23 = .seq C27_24 C27_25 := rfl
theorem R27_9_N : dstsOk 50 R27_9 = true := by decide +kernel
theorem E27_27 : C27_27 = .region 9 R27_9 false := rfl
theorem R27_10_N : dstsOk 50 R27_10 = true := by decide +kernel
theorem E27_30 : C27_30 = .region 10 R27_10 false := rfl
theorem R27_11_N : dstsOk 50 R27_11 = true := by decide +kernel
theorem E27_32 : C27_32 = .region 11 R27_11 false := rfl
theorem R27_12_N : dstsOk 50 R27_12 = true := by decide +kernel
theorem E27_35 : C27_35 = .region 12 R27_12 false := rfl
theorem R27_13_N : dstsOk 50 R27_13 = true := by decide +kernel
theorem E27_37 : C27_37 = .region 13 R27_13 false := rfl
theorem E27_38 : C27_38 = .skip := rfl
theorem E27_36 : C27_36 = .cond (.tmp 35) C27_37 C27_38 := rfl
theorem E27_34 : C27_34 = .seq C27_35 C27_36 := rfl
theorem R27_14_N : dstsOk 50 R27_14 = true := by decide +kernel
theorem E27_41 : C27_41 = .region 14 R27_14 false := rfl
theorem R27_15_N : dstsOk 50 R27_15 = true := by decide +kernel
theorem E27_44 : C27_44 = .region 15 R27_15 false := rfl
theorem E27_45 : C27_45 = .ret := rfl
theorem E27_43 : C27_43 = .seq C27_44 C27_45 := rfl
theorem E27_46 : C27_46 = .skip := rfl
theorem E27_42 : C27_42 = .cond (.tmp 41) C27_43 C27_46 := rfl
theorem E27_40 : C27_40 = .seq C27_41 C27_42 := rfl
theorem R27_16_N : dstsOk 50 R27_16 = true := by decide +kernel
theorem E27_47 : C27_47 = .region 16 R27_16 false := rfl
theorem E27_39 : C27_39 = .seq C27_40 C27_47 := rfl
theorem E27_33 : C27_33 = .seq C27_34 C27_39 := rfl
theorem E27_31 : C27_31 = .seq C27_32 C27_33 := rfl
theorem E27_29 : C27_29 = .seq C27_30 C27_31 := rfl
theorem R27_6_N : dstsOk 50 R27_6 = true := by decide +kernel
theorem E27_48 : C27_48 = .region 6 R27_6 false := rfl
theorem E27_28 : C27_28 = .cond (.tmp 28) C27_29 C27_48 := rfl
theorem E27_26 : C27_26 = .seq C27_27 C27_28 := rfl
theorem E27_22 : C27_22 = .cond (.tmp 22) C27_23 C27_26 := rfl
theorem E27_20 : C27_20 = .seq C27_21 C27_22 := rfl
theorem E27_19 : C27_19 = .block 2 C27_20 := rfl
theorem E27_17 : C27_17 = .seq C27_18 C27_19 := rfl
theorem E27_16 : C27_16 = .block 1 C27_17 := rfl
theorem R27_4_N : dstsOk 50 R27_4 = true := by decide +kernel
theorem E27_49 : C27_49 = .region 4 R27_4 false := rfl
theorem E27_15 : C27_15 = .seq C27_16 C27_49 := rfl
theorem E27_9 : C27_9 = .seq C27_10 C27_15 := rfl
theorem E27_8 : C27_8 = .loop C27_9 := rfl
theorem E27_7 : C27_7 = .block 0 C27_8 := rfl
theorem E27_5 : C27_5 = .seq C27_6 C27_7 := rfl
theorem R27_17_N : dstsOk 50 R27_17 = true := by decide +kernel
theorem E27_51 : C27_51 = .region 17 R27_17 false := rfl
theorem E27_52 : C27_52 = .ret := rfl
theorem E27_50 : C27_50 = .seq C27_51 C27_52 := rfl
theorem E27_4 : C27_4 = .seq C27_5 C27_50 := rfl
theorem E27_2 : C27_2 = .seq C27_3 C27_4 := rfl
theorem E27_0 : C27_0 = .seq C27_1 C27_2 := rfl
def S27_3 (Q : (Int × ByteArray × Int × Int × Int × Int) → AW → Prop) (E : List PanicEntry → AW → Prop) (nx1 : ByteArray → Value → Value → Int → AW → Prop) (s_0 : ByteArray) (t_2 : Value) (b_6 : Value) (i_7 : Int) (aw : AW) : Prop :=
  nx1 s_0 t_2 b_6 (IntKind.i64.wrap (i_7 + 1)) aw
def S27_2 (Q : (Int × ByteArray × Int × Int × Int × Int) → AW → Prop) (E : List PanicEntry → AW → Prop) (nx1 : ByteArray → Value → Value → Int → AW → Prop) (s_0 : ByteArray) (t_2 : Value) (b_6 : Value) (i_7 : Int) (k_8 : Int) (aw : AW) : Prop :=
  cnd (decide (k_8 < 0)) (st aw t_2 [.int .u8 0, .string (⟨#[]⟩ : ByteArray), .int .i64 0] fun aw2 =>
  ∃ b9 i10 c12 c13 c14, t_2 = .pointer (some ⟨b9, i10, none⟩) ∧ aw2.get b9 i10 = some (.int .u8 c12) ∧ aw2.get b9 (i10 + 1) = some (.string c13) ∧ aw2.get b9 (i10 + 2) = some (.int .i64 c14) ∧ Q (c12, c13, c14, 0, i_7, 4) aw2) (chr (⟨#[10, 34, 92, 9]⟩ : ByteArray) k_8 fun c18 =>
  CallP prog 32 [b_6, .int .u8 c18] aw sh32 (fun r22 aw23 =>
  S27_3 Q E nx1 s_0 t_2 b_6 i_7 aw23) E)
def S27_1s (Q : (Int × ByteArray × Int × Int × Int × Int) → AW → Prop) (E : List PanicEntry → AW → Prop)  (nx1 : ByteArray → Value → Value → Int → AW → Prop) (s_0 : ByteArray) (t_2 : Value) (b_6 : Value) (i_7 : Int) (aw : AW) : Prop :=
  cnd (decide (i_7 < (s_0.size : Int))) (chr s_0 i_7 fun c25 =>
  cnd (decide (c25 = 34)) (CallP prog 31 [b_6] aw sh31 (fun r30 aw31 =>
  st aw31 t_2 [.int .u8 5, .string r30, .int .i64 0] fun aw32 =>
  ∃ b39 i40 c42 c43 c44, t_2 = .pointer (some ⟨b39, i40, none⟩) ∧ aw32.get b39 i40 = some (.int .u8 c42) ∧ aw32.get b39 (i40 + 1) = some (.string c43) ∧ aw32.get b39 (i40 + 2) = some (.int .i64 c44) ∧ Q (c42, c43, c44, (IntKind.i64.wrap (i_7 + 1)), 0, 0) aw32) E) (cnd (decide (c25 = 92)) (cnd (decide ((IntKind.i64.wrap (i_7 + 1)) < (s_0.size : Int))) (chr s_0 (IntKind.i64.wrap (i_7 + 1)) fun c50 =>
  CallP prog 15 [.string (⟨#[110, 34, 92, 116]⟩ : ByteArray), .int .u8 c50] aw sh15 (fun r54 aw55 =>
  S27_2 Q E nx1 s_0 t_2 b_6 (IntKind.i64.wrap (i_7 + 1)) r54 aw55) E) (S27_2 Q E nx1 s_0 t_2 b_6 (IntKind.i64.wrap (i_7 + 1)) (-1) aw)) (chr s_0 i_7 fun c56 =>
  CallP prog 32 [b_6, .int .u8 c56] aw sh32 (fun r60 aw61 =>
  S27_3 Q E nx1 s_0 t_2 b_6 i_7 aw61) E))) (st aw t_2 [.int .u8 0, .string (⟨#[]⟩ : ByteArray), .int .i64 0] fun aw62 =>
  ∃ b69 i70 c72 c73 c74, t_2 = .pointer (some ⟨b69, i70, none⟩) ∧ aw62.get b69 i70 = some (.int .u8 c72) ∧ aw62.get b69 (i70 + 1) = some (.string c73) ∧ aw62.get b69 (i70 + 2) = some (.int .i64 c74) ∧ Q (c72, c73, c74, 0, (s_0.size : Int), 4) aw62)
def S27_1 (Q : (Int × ByteArray × Int × Int × Int × Int) → AW → Prop) (E : List PanicEntry → AW → Prop)  : Nat → ByteArray → Value → Value → Int → AW → Prop
  | 0 => fun _ _ _ _ _ => False
  | n + 1 => S27_1s Q E  (S27_1 Q E  n)
def S27_0 (Q : (Int × ByteArray × Int × Int × Int × Int) → AW → Prop) (E : List PanicEntry → AW → Prop)  (s_0 : ByteArray) (aw : AW) : Prop :=
  alc aw [.int .u8 0, .string (⟨#[]⟩ : ByteArray), .int .i64 0] 33 0 fun p78 aw79 =>
  alc aw79 [(.pointer none), (.slice none 0 0)] 55 0 fun p82 aw83 =>
  ∃ n, S27_1 Q E  n s_0 p78 p82 1 aw83
set_option maxHeartbeats 4000000 in
set_option maxRecDepth 100000 in
theorem S27_3_ok (Q : (Int × ByteArray × Int × Int × Int × Int) → AW → Prop) (E : List PanicEntry → AW → Prop) (nx1 : ByteArray → Value → Value → Int → AW → Prop) (L1 : ∀ (ρ : Env) (s_0 : ByteArray) (t_2 : Value) (b_6 : Value) (i_7 : Int) (aw : AW) (h0 : ρ 0 = .string s_0) (h2 : ρ 2 = t_2) (h6 : ρ 6 = b_6) (h7 : ρ 7 = .int .i64 i_7), nx1 s_0 t_2 b_6 i_7 aw → AGo prog 50 [.code C27_9, .inLoop C27_9, .inBlock 0, .code C27_50] ρ [] aw (RR prog f27 50 sh27 Q E)) (ρ : Env) (s_0 : ByteArray) (t_2 : Value) (b_6 : Value) (i_7 : Int) (aw : AW) (h0 : ρ 0 = .string s_0) (h2 : ρ 2 = t_2) (h6 : ρ 6 = b_6) (h7 : ρ 7 = .int .i64 i_7) (H : S27_3 Q E nx1 s_0 t_2 b_6 i_7 aw) :
    AGo prog 50 [.inBlock 2, .inBlock 1, .code C27_49, .inLoop C27_9, .inBlock 0, .code C27_50] ρ [] aw (RR prog f27 50 sh27 Q E) := by
  unfold S27_3 at H
  refine ago_inBlock ?_
  refine ago_inBlock ?_
  refine ago_regE E27_49 (l := [0, 1, 2]) rfl ?_
  refine lk (dt := some 13) R27_4_N rfl rfl rfl (opv_move rfl rfl h7) ?_
  refine lk (dt := some 14) R27_4_N rfl rfl rfl (opv_add rfl rfl rfl rfl rfl) ?_
  refine lk (dt := some 7) R27_4_N rfl rfl rfl (opv_assign rfl rfl rfl) ?_
  refine aops_nil ?_
  refine ago_inLoop ?_
  exact L1 _ s_0 t_2 b_6 (IntKind.i64.wrap (i_7 + 1)) aw h0 h2 h6 rfl H
set_option maxHeartbeats 4000000 in
set_option maxRecDepth 100000 in
theorem S27_2_ok (Q : (Int × ByteArray × Int × Int × Int × Int) → AW → Prop) (E : List PanicEntry → AW → Prop) (nx1 : ByteArray → Value → Value → Int → AW → Prop) (L1 : ∀ (ρ : Env) (s_0 : ByteArray) (t_2 : Value) (b_6 : Value) (i_7 : Int) (aw : AW) (h0 : ρ 0 = .string s_0) (h2 : ρ 2 = t_2) (h6 : ρ 6 = b_6) (h7 : ρ 7 = .int .i64 i_7), nx1 s_0 t_2 b_6 i_7 aw → AGo prog 50 [.code C27_9, .inLoop C27_9, .inBlock 0, .code C27_50] ρ [] aw (RR prog f27 50 sh27 Q E)) (ρ : Env) (s_0 : ByteArray) (t_2 : Value) (b_6 : Value) (i_7 : Int) (k_8 : Int) (aw : AW) (h0 : ρ 0 = .string s_0) (h2 : ρ 2 = t_2) (h6 : ρ 6 = b_6) (h7 : ρ 7 = .int .i64 i_7) (h8 : ρ 8 = .int .i64 k_8) (H : S27_2 Q E nx1 s_0 t_2 b_6 i_7 k_8 aw) :
    AGo prog 50 [.code C27_39, .inBlock 2, .inBlock 1, .code C27_49, .inLoop C27_9, .inBlock 0, .code C27_50] ρ [] aw (RR prog f27 50 sh27 Q E) := by
  unfold S27_2 at H
  refine ago_seqE E27_39 ?_
  refine ago_seqE E27_40 ?_
  refine ago_regE E27_41 (l := [0, 1]) rfl ?_
  refine lk (dt := some 40) R27_14_N rfl rfl rfl (opv_move rfl rfl h8) ?_
  refine lk (dt := some 41) R27_14_N rfl rfl rfl (opv_lt rfl rfl rfl rfl rfl) ?_
  refine aops_nil ?_
  refine ago_condE  E27_42 rfl rfl (fun hb1 => ?_) (fun hb1 => ?_)
  · replace H := cnd_t H hb1
    refine ago_seqE E27_43 ?_
    refine ago_regE E27_44 (l := [0, 1, 2, 3, 4, 5]) rfl ?_
    refine lk (dt := some 42) R27_15_N rfl rfl rfl (ov_bld (r := [.int .u8 0, .string (⟨#[]⟩ : ByteArray), .int .i64 0]) rfl rfl bo33 rfl (fillN rfl)) ?_
    refine lk (dt := some 43) R27_15_N rfl rfl rfl (opv_move rfl rfl h7) ?_
    obtain ⟨b3, i4, aw2, hp5, hw6, ho7, ha8, H⟩ := H
    refine lk (dt := none) R27_15_N rfl rfl rfl (ov_st rfl rfl rfl h2 rfl rfl sz33 hp5 hw6 ho7 ha8) ?_
    refine lk (dt := some 3) R27_15_N rfl rfl rfl (opv_assign rfl rfl rfl) ?_
    refine lk (dt := some 4) R27_15_N rfl rfl rfl (opv_assign rfl rfl rfl) ?_
    refine lk (dt := some 5) R27_15_N rfl rfl rfl (opv_assign rfl rfl rfl) ?_
    refine aops_nil ?_
    obtain ⟨b9, i10, c12, c13, c14, hp11, hg15, hg16, hg17, H⟩ := H
    exact ago_retE E27_45 (r := (c12, c13, c14, 0, i_7, 4)) (ares_4 rfl (oneN h2 hp11 underlying33 rfl sz33 (getN_cons hg15 (getN_cons hg16 (getN_cons hg17 getN_nil)))) (oneT rfl) (oneT rfl) (oneT rfl)) rfl H
  · replace H := cnd_f H hb1
    refine ago_skipE E27_46 ?_
    refine ago_regE E27_47 (l := [0, 1, 2]) rfl ?_
    refine lk (dt := some 44) R27_16_N rfl rfl rfl (opv_move rfl rfl h8) ?_
    obtain ⟨c18, h019, hj20, hv21, H⟩ := H
    refine lk (dt := some 45) R27_16_N rfl rfl rfl (ov_chr rfl rfl rfl underlying9 rfl rfl h019 hj20 hv21) ?_
    refine lk_call (dt := some 46) R27_16_N rfl rfl rfl (opc_of rfl rfl is32 (ma_cons h6 (ma_cons rfl rfl))) H (fun _ _ h => ⟨rfl, h⟩) fun r22 aw23 H => ?_
    refine aops_nil ?_
    exact S27_3_ok Q E nx1 L1 _ s_0 t_2 b_6 i_7 aw23 h0 h2 h6 h7 H
set_option maxHeartbeats 4000000 in
set_option maxRecDepth 100000 in
theorem S27_1s_ok (Q : (Int × ByteArray × Int × Int × Int × Int) → AW → Prop) (E : List PanicEntry → AW → Prop)  (nx1 : ByteArray → Value → Value → Int → AW → Prop) (L1 : ∀ (ρ : Env) (s_0 : ByteArray) (t_2 : Value) (b_6 : Value) (i_7 : Int) (aw : AW) (h0 : ρ 0 = .string s_0) (h2 : ρ 2 = t_2) (h6 : ρ 6 = b_6) (h7 : ρ 7 = .int .i64 i_7), nx1 s_0 t_2 b_6 i_7 aw → AGo prog 50 [.code C27_9, .inLoop C27_9, .inBlock 0, .code C27_50] ρ [] aw (RR prog f27 50 sh27 Q E)) (ρ : Env) (s_0 : ByteArray) (t_2 : Value) (b_6 : Value) (i_7 : Int) (aw : AW) (h0 : ρ 0 = .string s_0) (h2 : ρ 2 = t_2) (h6 : ρ 6 = b_6) (h7 : ρ 7 = .int .i64 i_7) (H : S27_1s Q E  nx1 s_0 t_2 b_6 i_7 aw) :
    AGo prog 50 [.code C27_9, .inLoop C27_9, .inBlock 0, .code C27_50] ρ [] aw (RR prog f27 50 sh27 Q E) := by
  unfold S27_1s at H
  refine ago_seqE E27_9 ?_
  refine ago_seqE E27_10 ?_
  refine ago_regE E27_11 (l := [0, 1, 2, 3]) rfl ?_
  refine lk (dt := some 9) R27_3_N rfl rfl rfl (opv_move rfl rfl h7) ?_
  refine lk (dt := some 10) R27_3_N rfl rfl rfl (opv_move rfl rfl h0) ?_
  refine lk (dt := some 11) R27_3_N rfl rfl rfl (opv_lenS rfl rfl rfl underlying9 rfl) ?_
  refine lk (dt := some 12) R27_3_N rfl rfl rfl (opv_lt rfl rfl rfl rfl rfl) ?_
  refine aops_nil ?_
  refine ago_condE  E27_12 rfl rfl (fun hb24 => ?_) (fun hb24 => ?_)
  · replace H := cnd_t H hb24
    refine ago_skipE E27_13 ?_
    refine ago_seqE E27_15 ?_
    refine ago_blockE E27_16 ?_
    refine ago_seqE E27_17 ?_
    refine ago_regE E27_18 (l := [0, 1, 2]) rfl ?_
    refine lk (dt := some 15) R27_5_N rfl rfl rfl (opv_move rfl rfl h0) ?_
    refine lk (dt := some 16) R27_5_N rfl rfl rfl (opv_move rfl rfl h7) ?_
    obtain ⟨c25, h026, hj27, hv28, H⟩ := H
    refine lk (dt := some 17) R27_5_N rfl rfl rfl (ov_chr rfl rfl rfl underlying9 rfl rfl h026 hj27 hv28) ?_
    refine aops_nil ?_
    refine ago_blockE E27_19 ?_
    refine ago_seqE E27_20 ?_
    refine ago_regE E27_21 (l := [0, 1]) rfl ?_
    refine lk (dt := some 23) R27_7_N rfl rfl rfl (opv_eqI rfl rfl rfl rfl rfl) ?_
    refine lk (dt := some 22) R27_7_N rfl rfl rfl (opv_assign rfl rfl rfl) ?_
    refine aops_nil ?_
    refine ago_condE  E27_22 rfl rfl (fun hb29 => ?_) (fun hb29 => ?_)
    · replace H := cnd_t H hb29
      refine ago_seqE E27_23 ?_
      refine ago_regE E27_24 (l := [0, 1, 2, 3, 4, 5, 6, 7]) rfl ?_
      refine lk_call (dt := some 24) R27_8_N rfl rfl rfl (opc_of rfl rfl is31 (ma_cons h6 rfl)) H (fun _ _ h => ⟨rfl, h⟩) fun r30 aw31 H => ?_
      refine lk (dt := some 25) R27_8_N rfl rfl rfl (ov_bld (r := [.int .u8 5, .string r30, .int .i64 0]) rfl rfl bo33 (mp_cons rfl (mp_cons rfl rfl)) (fillP rfl rfl rfl rfl (fillP rfl rfl rfl rfl (fillN rfl)))) ?_
      refine lk (dt := some 26) R27_8_N rfl rfl rfl (opv_move rfl rfl h7) ?_
      refine lk (dt := some 27) R27_8_N rfl rfl rfl (opv_add rfl rfl rfl rfl rfl) ?_
      obtain ⟨b33, i34, aw32, hp35, hw36, ho37, ha38, H⟩ := H
      refine lk (dt := none) R27_8_N rfl rfl rfl (ov_st rfl rfl rfl h2 rfl rfl sz33 hp35 hw36 ho37 ha38) ?_
      refine lk (dt := some 3) R27_8_N rfl rfl rfl (opv_assign rfl rfl rfl) ?_
      refine lk (dt := some 4) R27_8_N rfl rfl rfl (opv_assign rfl rfl rfl) ?_
      refine lk (dt := some 5) R27_8_N rfl rfl rfl (opv_assign rfl rfl rfl) ?_
      refine aops_nil ?_
      obtain ⟨b39, i40, c42, c43, c44, hp41, hg45, hg46, hg47, H⟩ := H
      exact ago_retE E27_25 (r := (c42, c43, c44, (IntKind.i64.wrap (i_7 + 1)), 0, 0)) (ares_4 rfl (oneN h2 hp41 underlying33 rfl sz33 (getN_cons hg45 (getN_cons hg46 (getN_cons hg47 getN_nil)))) (oneT rfl) (oneT rfl) (oneT rfl)) rfl H
    · replace H := cnd_f H hb29
      refine ago_seqE E27_26 ?_
      refine ago_regE E27_27 (l := [0, 1]) rfl ?_
      refine lk (dt := some 29) R27_9_N rfl rfl rfl (opv_eqI rfl rfl rfl rfl rfl) ?_
      refine lk (dt := some 28) R27_9_N rfl rfl rfl (opv_assign rfl rfl rfl) ?_
      refine aops_nil ?_
      refine ago_condE  E27_28 rfl rfl (fun hb48 => ?_) (fun hb48 => ?_)
      · replace H := cnd_t H hb48
        refine ago_seqE E27_29 ?_
        refine ago_regE E27_30 (l := [0, 1, 2]) rfl ?_
        refine lk (dt := some 30) R27_10_N rfl rfl rfl (opv_move rfl rfl h7) ?_
        refine lk (dt := some 31) R27_10_N rfl rfl rfl (opv_add rfl rfl rfl rfl rfl) ?_
        refine lk (dt := some 7) R27_10_N rfl rfl rfl (opv_assign rfl rfl rfl) ?_
        refine aops_nil ?_
        refine ago_seqE E27_31 ?_
        refine ago_cut (fun ρ => ρ 0 = .string s_0 ∧ ρ 2 = t_2 ∧ ρ 6 = b_6 ∧ ρ 7 = .int .i64 (IntKind.i64.wrap (i_7 + 1)) ∧ True) ⟨h0, h2, h6, rfl, trivial⟩ (fun ρ ⟨h0, h2, h6, h7, _⟩ => ?_)
        refine ago_regE E27_32 (l := [0]) rfl ?_
        refine lk (dt := some 8) R27_11_N rfl rfl rfl (opv_assign rfl rfl rfl) ?_
        refine aops_nil ?_
        refine ago_seqE E27_33 ?_
        refine ago_seqE E27_34 ?_
        refine ago_regE E27_35 (l := [0, 1, 2, 3]) rfl ?_
        refine lk (dt := some 32) R27_12_N rfl rfl rfl (opv_move rfl rfl h7) ?_
        refine lk (dt := some 33) R27_12_N rfl rfl rfl (opv_move rfl rfl h0) ?_
        refine lk (dt := some 34) R27_12_N rfl rfl rfl (opv_lenS rfl rfl rfl underlying9 rfl) ?_
        refine lk (dt := some 35) R27_12_N rfl rfl rfl (opv_lt rfl rfl rfl rfl rfl) ?_
        refine aops_nil ?_
        refine ago_condE  E27_36 rfl rfl (fun hb49 => ?_) (fun hb49 => ?_)
        · replace H := cnd_t H hb49
          refine ago_regE E27_37 (l := [0, 1, 2, 3, 4]) rfl ?_
          refine lk (dt := some 36) R27_13_N rfl rfl rfl (opv_move rfl rfl h0) ?_
          refine lk (dt := some 37) R27_13_N rfl rfl rfl (opv_move rfl rfl h7) ?_
          obtain ⟨c50, h051, hj52, hv53, H⟩ := H
          refine lk (dt := some 38) R27_13_N rfl rfl rfl (ov_chr rfl rfl rfl underlying9 rfl rfl h051 hj52 hv53) ?_
          refine lk_call (dt := some 39) R27_13_N rfl rfl rfl (opc_of rfl rfl is15 (ma_cons rfl (ma_cons rfl rfl))) H (fun _ _ h => ⟨rfl, h⟩) fun r54 aw55 H => ?_
          refine lk (dt := some 8) R27_13_N rfl rfl rfl (opv_assign rfl rfl rfl) ?_
          refine aops_nil ?_
          exact S27_2_ok Q E nx1 L1 _ s_0 t_2 b_6 (IntKind.i64.wrap (i_7 + 1)) r54 aw55 h0 h2 h6 h7 rfl H
        · replace H := cnd_f H hb49
          refine ago_skipE E27_38 ?_
          exact S27_2_ok Q E nx1 L1 _ s_0 t_2 b_6 (IntKind.i64.wrap (i_7 + 1)) (-1) aw h0 h2 h6 h7 rfl H
      · replace H := cnd_f H hb48
        refine ago_regE E27_48 (l := [0, 1, 2, 3]) rfl ?_
        refine lk (dt := some 18) R27_6_N rfl rfl rfl (opv_move rfl rfl h0) ?_
        refine lk (dt := some 19) R27_6_N rfl rfl rfl (opv_move rfl rfl h7) ?_
        obtain ⟨c56, h057, hj58, hv59, H⟩ := H
        refine lk (dt := some 20) R27_6_N rfl rfl rfl (ov_chr rfl rfl rfl underlying9 rfl rfl h057 hj58 hv59) ?_
        refine lk_call (dt := some 21) R27_6_N rfl rfl rfl (opc_of rfl rfl is32 (ma_cons h6 (ma_cons rfl rfl))) H (fun _ _ h => ⟨rfl, h⟩) fun r60 aw61 H => ?_
        refine aops_nil ?_
        exact S27_3_ok Q E nx1 L1 _ s_0 t_2 b_6 i_7 aw61 h0 h2 h6 h7 H
  · replace H := cnd_f H hb24
    refine ago_exitE E27_14 rfl ?_
    refine ago_seqE E27_50 ?_
    refine ago_regE E27_51 (l := [0, 1, 2, 3, 4, 5, 6]) rfl ?_
    refine lk (dt := some 47) R27_17_N rfl rfl rfl (ov_bld (r := [.int .u8 0, .string (⟨#[]⟩ : ByteArray), .int .i64 0]) rfl rfl bo33 rfl (fillN rfl)) ?_
    refine lk (dt := some 48) R27_17_N rfl rfl rfl (opv_move rfl rfl h0) ?_
    refine lk (dt := some 49) R27_17_N rfl rfl rfl (opv_lenS rfl rfl rfl underlying9 rfl) ?_
    obtain ⟨b63, i64, aw62, hp65, hw66, ho67, ha68, H⟩ := H
    refine lk (dt := none) R27_17_N rfl rfl rfl (ov_st rfl rfl rfl h2 rfl rfl sz33 hp65 hw66 ho67 ha68) ?_
    refine lk (dt := some 3) R27_17_N rfl rfl rfl (opv_assign rfl rfl rfl) ?_
    refine lk (dt := some 4) R27_17_N rfl rfl rfl (opv_assign rfl rfl rfl) ?_
    refine lk (dt := some 5) R27_17_N rfl rfl rfl (opv_assign rfl rfl rfl) ?_
    refine aops_nil ?_
    obtain ⟨b69, i70, c72, c73, c74, hp71, hg75, hg76, hg77, H⟩ := H
    exact ago_retE E27_52 (r := (c72, c73, c74, 0, (s_0.size : Int), 4)) (ares_4 rfl (oneN h2 hp71 underlying33 rfl sz33 (getN_cons hg75 (getN_cons hg76 (getN_cons hg77 getN_nil)))) (oneT rfl) (oneT rfl) (oneT rfl)) rfl H
theorem S27_1_ok (Q : (Int × ByteArray × Int × Int × Int × Int) → AW → Prop) (E : List PanicEntry → AW → Prop)  : ∀ (n : Nat) (ρ : Env) (s_0 : ByteArray) (t_2 : Value) (b_6 : Value) (i_7 : Int) (aw : AW) (h0 : ρ 0 = .string s_0) (h2 : ρ 2 = t_2) (h6 : ρ 6 = b_6) (h7 : ρ 7 = .int .i64 i_7), S27_1 Q E  n s_0 t_2 b_6 i_7 aw →
    AGo prog 50 [.code C27_9, .inLoop C27_9, .inBlock 0, .code C27_50] ρ [] aw (RR prog f27 50 sh27 Q E)
  | 0, _, _, _, _, _, _, _, _, _, _ => fun H => H.elim
  | n + 1, ρ, s_0, t_2, b_6, i_7, aw, h0, h2, h6, h7 => fun H => S27_1s_ok Q E  _ (S27_1_ok Q E  n) ρ s_0 t_2 b_6 i_7 aw h0 h2 h6 h7 H
set_option maxHeartbeats 4000000 in
set_option maxRecDepth 100000 in
theorem S27_0_ok (Q : (Int × ByteArray × Int × Int × Int × Int) → AW → Prop) (E : List PanicEntry → AW → Prop)  (ρ : Env) (s_0 : ByteArray) (aw : AW) (h0 : ρ 0 = .string s_0) (H : S27_0 Q E  s_0 aw) :
    AGo prog 50 [.code C27_0] ρ [] aw (RR prog f27 50 sh27 Q E) := by
  unfold S27_0 at H
  refine ago_seqE E27_0 ?_
  refine ago_regE E27_1 (l := [0, 1, 2, 3]) rfl ?_
  obtain ⟨p78, aw79, hp80, ha81, H⟩ := H
  refine lk (dt := some 2) R27_0_N rfl rfl rfl (ov_alloc rfl z33 rfl rfl hp80 ha81) ?_
  refine lk (dt := some 3) R27_0_N rfl rfl rfl (opv_assign rfl rfl rfl) ?_
  refine lk (dt := some 4) R27_0_N rfl rfl rfl (opv_assign rfl rfl rfl) ?_
  refine lk (dt := some 5) R27_0_N rfl rfl rfl (opv_assign rfl rfl rfl) ?_
  refine aops_nil ?_
  refine ago_seqE E27_2 ?_
  refine ago_regE E27_3 (l := [0]) rfl ?_
  obtain ⟨p82, aw83, hp84, ha85, H⟩ := H
  refine lk (dt := some 6) R27_1_N rfl rfl rfl (ov_alloc rfl z55 rfl rfl hp84 ha85) ?_
  refine aops_nil ?_
  refine ago_seqE E27_4 ?_
  refine ago_seqE E27_5 ?_
  refine ago_regE E27_6 (l := [0]) rfl ?_
  refine lk (dt := some 7) R27_2_N rfl rfl rfl (opv_assign rfl rfl rfl) ?_
  refine aops_nil ?_
  refine ago_blockE E27_7 ?_
  refine ago_loopE E27_8 ?_
  obtain ⟨n, H⟩ := H
  exact S27_1_ok Q E  n _ s_0 p78 p82 1 aw83 h0 rfl rfl rfl H
theorem F27_ok {Q : (Int × ByteArray × Int × Int × Int × Int) → AW → Prop} {E : List PanicEntry → AW → Prop} (s_0 : ByteArray) (aw : AW) (H : S27_0 Q E s_0 aw) : CallP prog 27 [.string s_0] aw sh27 Q E :=
  callP_of func27 C27_is rfl (Nat.le_of_ble_eq_true rfl) (S27_0_ok Q E _ s_0 aw rfl H)
/-! ### internal/stringslite.Clone: function 41 -/
noncomputable def C41_0 : Code := bodyOf f41
theorem C41_is : f41.body = some C41_0 := by kernel_rfl
noncomputable def C41_1 : Code := cl C41_0
noncomputable def R41_0 : Array Oper := regOps C41_1
noncomputable def C41_2 : Code := cr C41_0
noncomputable def C41_3 : Code := cl C41_2
noncomputable def C41_4 : Code := cl C41_3
noncomputable def R41_1 : Array Oper := regOps C41_4
noncomputable def C41_5 : Code := cr C41_3
noncomputable def C41_6 : Code := cl C41_5
noncomputable def C41_7 : Code := cl C41_6
noncomputable def R41_2 : Array Oper := regOps C41_7
noncomputable def C41_8 : Code := cr C41_6
noncomputable def C41_9 : Code := cr C41_5
noncomputable def C41_10 : Code := cr C41_2
noncomputable def C41_11 : Code := cl C41_10
noncomputable def R41_3 : Array Oper := regOps C41_11
noncomputable def C41_12 : Code := cr C41_10
noncomputable def C41_13 : Code := cl C41_12
noncomputable def R41_4 : Array Oper := regOps C41_13
noncomputable def C41_14 : Code := cr C41_12
noncomputable def C41_15 : Code := cl C41_14
noncomputable def R41_5 : Array Oper := regOps C41_15
noncomputable def C41_16 : Code := cr C41_14
theorem R41_0_N : dstsOk 18 R41_0 = true := by decide +kernel
theorem E41_1 : C41_1 = .region 0 R41_0 false := rfl
theorem R41_1_N : dstsOk 18 R41_1 = true := by decide +kernel
theorem E41_4 : C41_4 = .region 1 R41_1 false := rfl
theorem R41_2_N : dstsOk 18 R41_2 = true := by decide +kernel
theorem E41_7 : C41_7 = .region 2 R41_2 false := rfl
theorem E41_8 : C41_8 = .ret := rfl
theorem E41_6 : C41_6 = .seq C41_7 C41_8 := rfl
theorem E41_9 : C41_9 = .skip := rfl
theorem E41_5 : C41_5 = .cond (.tmp 6) C41_6 C41_9 := rfl
theorem E41_3 : C41_3 = .seq C41_4 C41_5 := rfl
theorem R41_3_N : dstsOk 18 R41_3 = true := by decide +kernel
theorem E41_11 : C41_11 = .region 3 R41_3 false := rfl
theorem R41_4_N : dstsOk 18 R41_4 = true := by decide +kernel
theorem E41_13 : C41_13 = .region 4 R41_4 false := rfl
theorem R41_5_N : dstsOk 18 R41_5 = true := by decide +kernel
theorem E41_15 : C41_15 = .region 5 R41_5 false := rfl
theorem E41_16 : C41_16 = .ret := rfl
theorem E41_14 : C41_14 = .seq C41_15 C41_16 := rfl
theorem E41_12 : C41_12 = .seq C41_13 C41_14 := rfl
theorem E41_10 : C41_10 = .seq C41_11 C41_12 := rfl
theorem E41_2 : C41_2 = .seq C41_3 C41_10 := rfl
theorem E41_0 : C41_0 = .seq C41_1 C41_2 := rfl
def S41_0 (Q : ByteArray → AW → Prop) (E : List PanicEntry → AW → Prop)  (s_0 : ByteArray) (aw : AW) : Prop :=
  cnd (decide ((s_0.size : Int) = 0)) (Q (⟨#[]⟩ : ByteArray) aw) (mk aw 5 1 1 [.int .u8 0] (s_0.size : Int) (s_0.size : Int) fun p2 aw3 =>
  cpy aw3 1 p2 (.string s_0) fun n10 aw11 =>
  ixS p2 0 1 fun p24 =>
  slen p2 fun n33 =>
  uStr prog aw11 5 p24 n33 fun s39 aw40 =>
  Q s39 aw40)
set_option maxHeartbeats 4000000 in
set_option maxRecDepth 100000 in
theorem S41_0_ok (Q : ByteArray → AW → Prop) (E : List PanicEntry → AW → Prop)  (ρ : Env) (s_0 : ByteArray) (aw : AW) (h0 : ρ 0 = .string s_0) (H : S41_0 Q E  s_0 aw) :
    AGo prog 18 [.code C41_0] ρ [] aw (RR prog f41 18 sh41 Q E) := by
  unfold S41_0 at H
  refine ago_seqE E41_0 ?_
  refine ago_regE E41_1 (l := [0]) rfl ?_
  refine lk (dt := some 2) R41_0_N rfl rfl rfl (opv_assign rfl rfl rfl) ?_
  refine aops_nil ?_
  refine ago_seqE E41_2 ?_
  refine ago_seqE E41_3 ?_
  refine ago_regE E41_4 (l := [0, 1, 2]) rfl ?_
  refine lk (dt := some 4) R41_1_N rfl rfl rfl (opv_move rfl rfl h0) ?_
  refine lk (dt := some 5) R41_1_N rfl rfl rfl (opv_lenS rfl rfl rfl underlying9 rfl) ?_
  refine lk (dt := some 6) R41_1_N rfl rfl rfl (opv_eqI rfl rfl rfl rfl rfl) ?_
  refine aops_nil ?_
  refine ago_condE  E41_5 rfl rfl (fun hb1 => ?_) (fun hb1 => ?_)
  · replace H := cnd_t H hb1
    refine ago_seqE E41_6 ?_
    refine ago_regE E41_7 (l := [0]) rfl ?_
    refine lk (dt := some 2) R41_2_N rfl rfl rfl (opv_assign rfl rfl rfl) ?_
    refine aops_nil ?_
    exact ago_retE E41_8 (r := (⟨#[]⟩ : ByteArray)) (ares_1 rfl (oneT rfl)) rfl H
  · replace H := cnd_f H hb1
    refine ago_skipE E41_9 ?_
    refine ago_seqE E41_10 ?_
    refine ago_regE E41_11 (l := [0, 1, 2, 3]) rfl ?_
    refine lk (dt := some 7) R41_3_N rfl rfl rfl (opv_move rfl rfl h0) ?_
    refine lk (dt := some 8) R41_3_N rfl rfl rfl (opv_lenS rfl rfl rfl underlying9 rfl) ?_
    obtain ⟨p2, aw3, hq4, hq5, hq6, hq7, hq8, hq9, H⟩ := H
    refine lk (dt := some 9) R41_3_N rfl rfl rfl (ov_mk rfl rfl rfl underlying30 sz5 by5 z5 rfl (by decide) rfl rfl rfl rfl hq4 hq5 hq6 hq7 hq8 hq9) ?_
    refine lk (dt := some 3) R41_3_N rfl rfl rfl (opv_assign rfl rfl rfl) ?_
    refine aops_nil ?_
    refine ago_seqE E41_12 ?_
    refine ago_regE E41_13 (l := [0, 1, 2]) rfl ?_
    refine lk (dt := some 10) R41_4_N rfl rfl rfl (opv_move rfl rfl rfl) ?_
    refine lk (dt := some 11) R41_4_N rfl rfl rfl (opv_move rfl rfl h0) ?_
    obtain ⟨q12, q13, q14, q15, q16, q17, n10, aw11, hq18, hq19, hq20, hq21, hq22, hq23, H⟩ := H
    refine lk (dt := some 12) R41_4_N rfl rfl rfl (ov_cpy rfl rfl rfl rfl underlying30 sz5 rfl hq18 rfl hq19 hq20 hq21 hq22 hq23) ?_
    refine aops_nil ?_
    refine ago_seqE E41_14 ?_
    refine ago_regE E41_15 (l := [0, 1, 2, 3, 4, 5]) rfl ?_
    refine lk (dt := some 13) R41_5_N rfl rfl rfl (opv_move rfl rfl rfl) ?_
    obtain ⟨b25, i26, l27, c28, p24, hp29, h030, hj31, hv32, H⟩ := H
    refine lk (dt := some 14) R41_5_N rfl rfl rfl (ov_ixS rfl rfl rfl underlying30 sz5 rfl rfl hp29 h030 hj31 hv32) ?_
    refine lk (dt := some 15) R41_5_N rfl rfl rfl (opv_move rfl rfl rfl) ?_
    obtain ⟨q34, l35, c36, n33, hv37, hn38, H⟩ := H
    refine lk (dt := some 16) R41_5_N rfl rfl rfl (ov_len rfl rfl rfl underlying30 rfl hv37 hn38) ?_
    obtain ⟨s39, aw40, hp41, H⟩ := H
    refine lk (dt := some 17) R41_5_N rfl rfl rfl (ov_ustr rfl rfl rfl underlying66 (by kernel_rfl) rfl rfl hp41) ?_
    refine lk (dt := some 2) R41_5_N rfl rfl rfl (opv_assign rfl rfl rfl) ?_
    refine aops_nil ?_
    exact ago_retE E41_16 (r := s39) (ares_1 rfl (oneT rfl)) rfl H
theorem F41_ok {Q : ByteArray → AW → Prop} {E : List PanicEntry → AW → Prop} (s_0 : ByteArray) (aw : AW) (H : S41_0 Q E s_0 aw) : CallP prog 41 [.string s_0] aw sh41 Q E :=
  callP_of func41 C41_is rfl (Nat.le_of_ble_eq_true rfl) (S41_0_ok Q E _ s_0 aw rfl H)
/-! ### strconv.rangeError: function 35 -/
noncomputable def C35_0 : Code := bodyOf f35
theorem C35_is : f35.body = some C35_0 := by kernel_rfl
noncomputable def C35_1 : Code := cl C35_0
noncomputable def R35_0 : Array Oper := regOps C35_1
noncomputable def C35_2 : Code := cr C35_0
noncomputable def C35_3 : Code := cl C35_2
noncomputable def R35_1 : Array Oper := regOps C35_3
noncomputable def C35_4 : Code := cr C35_2
theorem R35_0_N : dstsOk 11 R35_0 = true := by decide +kernel
theorem E35_1 : C35_1 = .region 0 R35_0 false := rfl
theorem R35_1_N : dstsOk 11 R35_1 = true := by decide +kernel
theorem R35_1_O : drawOk R35_1 [0, 1, 3] [0, 3] = true := by decide +kernel
theorem E35_3 : C35_3 = .region 1 R35_1 true := rfl
theorem E35_4 : C35_4 = .ret := rfl
theorem E35_2 : C35_2 = .seq C35_3 C35_4 := rfl
theorem E35_0 : C35_0 = .seq C35_1 C35_2 := rfl
def S35_0 (Q : Value → AW → Prop) (E : List PanicEntry → AW → Prop)  (fn_0 : ByteArray) (str_1 : ByteArray) (aw : AW) : Prop :=
  ldV aw (.pointer (some ⟨4, 0, none⟩)) fun x4 =>
  (CallP prog 41 [.string str_1] aw sh41 (fun r6 aw7 =>
  one x4 = true ∧ alc aw7 [.string fn_0, .string r6, x4] 70 0 fun p9 aw10 =>
  Q p9 aw10) E) ∧ ((CallP prog 41 [.string str_1] aw sh41 (fun r6 aw7 =>
  ldV aw7 (.pointer (some ⟨4, 0, none⟩)) fun x11 =>
  one x11 = true ∧ alc aw7 [.string fn_0, .string r6, x11] 70 0 fun p14 aw15 =>
  Q p14 aw15) E) ∧ (ldV aw (.pointer (some ⟨4, 0, none⟩)) fun x9 =>
  CallP prog 41 [.string str_1] aw sh41 (fun r11 aw12 =>
  one x9 = true ∧ alc aw12 [.string fn_0, .string r11, x9] 70 0 fun p14 aw15 =>
  Q p14 aw15) E)) ∧ (CallP prog 41 [.string str_1] aw sh41 (fun r6 aw7 =>
  one x4 = true ∧ alc aw7 [.string fn_0, .string r6, x4] 70 0 fun p9 aw10 =>
  Q p9 aw10) E) ∧ (((CallP prog 41 [.string str_1] aw sh41 (fun r6 aw7 =>
  ldV aw7 (.pointer (some ⟨4, 0, none⟩)) fun x11 =>
  one x11 = true ∧ alc aw7 [.string fn_0, .string r6, x11] 70 0 fun p14 aw15 =>
  Q p14 aw15) E) ∧ (ldV aw (.pointer (some ⟨4, 0, none⟩)) fun x9 =>
  CallP prog 41 [.string str_1] aw sh41 (fun r11 aw12 =>
  one x9 = true ∧ alc aw12 [.string fn_0, .string r11, x9] 70 0 fun p14 aw15 =>
  Q p14 aw15) E)) ∧ (CallP prog 41 [.string str_1] aw sh41 (fun r6 aw7 =>
  ldV aw7 (.pointer (some ⟨4, 0, none⟩)) fun x11 =>
  one x11 = true ∧ alc aw7 [.string fn_0, .string r6, x11] 70 0 fun p14 aw15 =>
  Q p14 aw15) E) ∧ (ldV aw (.pointer (some ⟨4, 0, none⟩)) fun x9 =>
  CallP prog 41 [.string str_1] aw sh41 (fun r11 aw12 =>
  one x9 = true ∧ alc aw12 [.string fn_0, .string r11, x9] 70 0 fun p14 aw15 =>
  Q p14 aw15) E))
set_option maxHeartbeats 4000000 in
set_option maxRecDepth 100000 in
theorem S35_0_ok (Q : Value → AW → Prop) (E : List PanicEntry → AW → Prop)  (ρ : Env) (fn_0 : ByteArray) (str_1 : ByteArray) (aw : AW) (h0 : ρ 0 = .string fn_0) (h1 : ρ 1 = .string str_1) (H : S35_0 Q E  fn_0 str_1 aw) :
    AGo prog 11 [.code C35_0] ρ [] aw (RR prog f35 11 sh35 Q E) := by
  unfold S35_0 at H
  refine ago_seqE E35_0 ?_
  refine ago_regE E35_1 (l := [0]) rfl ?_
  refine lk (dt := some 4) R35_0_N rfl rfl rfl (opv_assign rfl rfl rfl) ?_
  refine aops_nil ?_
  refine ago_seqE E35_2 ?_
  obtain ⟨b1, i2, x4, hp3, hg5, H⟩ := H
  refine ago_drawE (hs := [0, 1, 3]) (fl := [0, 3]) (hv := [(0, Value.string fn_0), (1, Value.string str_1), (3, x4)]) E35_3 mixed R35_1_N R35_1_O (by decide) rfl (pv_cons rfl (pv_cons rfl (pv_cons rfl (pv_nil _))))
    ⟨(hd_v rfl fun ρ hρ => ⟨rfl, opv_move rfl rfl ((hρ 0 (lmem rfl)).trans h0)⟩),
    (hd_v rfl fun ρ hρ => ⟨rfl, opv_move rfl rfl ((hρ 1 (lmem rfl)).trans h1)⟩),
    (hd_v rfl fun ρ hρ => ⟨rfl, ov_ldV rfl underlying47 rfl rfl rfl hp3 hg5⟩),
    trivial⟩ ?_
  refine tailAll_cons (hv' := [(0, Value.string fn_0), (1, Value.string str_1), (3, x4)]) rfl (pv_cons rfl (pv_cons rfl (pv_cons rfl (pv_nil _)))) ?_ ?_
  · replace H := H.1
    refine tail_n (m := 3) (is := [2]) (by decide +kernel) (by decide +kernel) rfl ⟨?_, trivial⟩
    refine lk_call (dt := some 7) R35_1_N rfl rfl rfl (opc_of rfl rfl is41 (ma_cons rfl rfl)) H (fun _ _ h => ⟨rfl, h⟩) fun r6 aw7 H => ?_
    refine aops_nil ?_
    refine tail_n (m := 2) (is := [4]) (by decide +kernel) (by decide +kernel) rfl ⟨?_, trivial⟩
    obtain ⟨h18, H⟩ := H
    refine lk (dt := some 9) R35_1_N rfl rfl rfl (ov_bld (r := [.string fn_0, .string r6, x4]) rfl rfl bo70 (mp_cons rfl (mp_cons rfl (mp_cons rfl rfl))) (fillP rfl rfl rfl rfl (fillP rfl rfl rfl rfl (fillP (cells_one h18) rfl rfl rfl (fillN rfl))))) ?_
    refine aops_nil ?_
    refine tail_n (m := 1) (is := [5]) (by decide +kernel) (by decide +kernel) rfl ⟨?_, trivial⟩
    obtain ⟨p9, aw10, hp11, ha12, H⟩ := H
    refine lk (dt := some 10) R35_1_N rfl rfl rfl (ov_box rfl rfl rfl rfl hp11 ha12) ?_
    refine aops_nil ?_
    refine tail_n (m := 0) (is := [6]) (by decide +kernel) (by decide +kernel) rfl ⟨?_, trivial⟩
    refine lk (dt := some 4) R35_1_N rfl rfl rfl (opv_assign rfl rfl rfl) ?_
    refine aops_nil ?_
    refine tail_0 (by decide +kernel) ?_
    exact ago_retE E35_4 (r := p9) (ares_1 rfl (oneT rfl)) rfl H
  refine tailAll_cons (hv' := [(0, Value.string fn_0), (1, Value.string str_1)]) rfl (pv_cons rfl (pv_cons rfl (pv_nil _))) ?_ ?_
  · replace H := H.2.1
    refine tail_n (m := 4) (is := [2, 3]) (by decide +kernel) (by decide +kernel) rfl ⟨?_, ?_, trivial⟩
    · replace H := H.1
      refine lk_call (dt := some 7) R35_1_N rfl rfl rfl (opc_of rfl rfl is41 (ma_cons rfl rfl)) H (fun _ _ h => ⟨rfl, h⟩) fun r6 aw7 H => ?_
      refine aops_nil ?_
      refine tail_n (m := 3) (is := [3]) (by decide +kernel) (by decide +kernel) rfl ⟨?_, trivial⟩
      obtain ⟨b8, i9, x11, hp10, hg12, H⟩ := H
      refine lk (dt := some 8) R35_1_N rfl rfl rfl (ov_ldV rfl underlying47 rfl rfl rfl hp10 hg12) ?_
      refine aops_nil ?_
      refine tail_n (m := 2) (is := [4]) (by decide +kernel) (by decide +kernel) rfl ⟨?_, trivial⟩
      obtain ⟨h113, H⟩ := H
      refine lk (dt := some 9) R35_1_N rfl rfl rfl (ov_bld (r := [.string fn_0, .string r6, x11]) rfl rfl bo70 (mp_cons rfl (mp_cons rfl (mp_cons rfl rfl))) (fillP rfl rfl rfl rfl (fillP rfl rfl rfl rfl (fillP (cells_one h113) rfl rfl rfl (fillN rfl))))) ?_
      refine aops_nil ?_
      refine tail_n (m := 1) (is := [5]) (by decide +kernel) (by decide +kernel) rfl ⟨?_, trivial⟩
      obtain ⟨p14, aw15, hp16, ha17, H⟩ := H
      refine lk (dt := some 10) R35_1_N rfl rfl rfl (ov_box rfl rfl rfl rfl hp16 ha17) ?_
      refine aops_nil ?_
      refine tail_n (m := 0) (is := [6]) (by decide +kernel) (by decide +kernel) rfl ⟨?_, trivial⟩
      refine lk (dt := some 4) R35_1_N rfl rfl rfl (opv_assign rfl rfl rfl) ?_
      refine aops_nil ?_
      refine tail_0 (by decide +kernel) ?_
      exact ago_retE E35_4 (r := p14) (ares_1 rfl (oneT rfl)) rfl H
    · replace H := H.2
      obtain ⟨b6, i7, x9, hp8, hg10, H⟩ := H
      refine lk (dt := some 8) R35_1_N rfl rfl rfl (ov_ldV rfl underlying47 rfl rfl rfl hp8 hg10) ?_
      refine aops_nil ?_
      refine tail_n (m := 3) (is := [2]) (by decide +kernel) (by decide +kernel) rfl ⟨?_, trivial⟩
      refine lk_call (dt := some 7) R35_1_N rfl rfl rfl (opc_of rfl rfl is41 (ma_cons rfl rfl)) H (fun _ _ h => ⟨rfl, h⟩) fun r11 aw12 H => ?_
      refine aops_nil ?_
      refine tail_n (m := 2) (is := [4]) (by decide +kernel) (by decide +kernel) rfl ⟨?_, trivial⟩
      obtain ⟨h113, H⟩ := H
      refine lk (dt := some 9) R35_1_N rfl rfl rfl (ov_bld (r := [.string fn_0, .string r11, x9]) rfl rfl bo70 (mp_cons rfl (mp_cons rfl (mp_cons rfl rfl))) (fillP rfl rfl rfl rfl (fillP rfl rfl rfl rfl (fillP (cells_one h113) rfl rfl rfl (fillN rfl))))) ?_
      refine aops_nil ?_
      refine tail_n (m := 1) (is := [5]) (by decide +kernel) (by decide +kernel) rfl ⟨?_, trivial⟩
      obtain ⟨p14, aw15, hp16, ha17, H⟩ := H
      refine lk (dt := some 10) R35_1_N rfl rfl rfl (ov_box rfl rfl rfl rfl hp16 ha17) ?_
      refine aops_nil ?_
      refine tail_n (m := 0) (is := [6]) (by decide +kernel) (by decide +kernel) rfl ⟨?_, trivial⟩
      refine lk (dt := some 4) R35_1_N rfl rfl rfl (opv_assign rfl rfl rfl) ?_
      refine aops_nil ?_
      refine tail_0 (by decide +kernel) ?_
      exact ago_retE E35_4 (r := p14) (ares_1 rfl (oneT rfl)) rfl H
  refine tailAll_cons (hv' := [(1, Value.string str_1), (3, x4)]) rfl (pv_cons rfl (pv_cons rfl (pv_nil _))) ?_ ?_
  · replace H := H.2.2.1
    refine tail_n (m := 4) (is := [0, 2]) (by decide +kernel) (by decide +kernel) rfl ⟨?_, ?_, trivial⟩
    · skip
      refine lk (dt := some 5) R35_1_N rfl rfl rfl (opv_move rfl rfl h0) ?_
      refine aops_nil ?_
      refine tail_n (m := 3) (is := [2]) (by decide +kernel) (by decide +kernel) rfl ⟨?_, trivial⟩
      refine lk_call (dt := some 7) R35_1_N rfl rfl rfl (opc_of rfl rfl is41 (ma_cons rfl rfl)) H (fun _ _ h => ⟨rfl, h⟩) fun r6 aw7 H => ?_
      refine aops_nil ?_
      refine tail_n (m := 2) (is := [4]) (by decide +kernel) (by decide +kernel) rfl ⟨?_, trivial⟩
      obtain ⟨h18, H⟩ := H
      refine lk (dt := some 9) R35_1_N rfl rfl rfl (ov_bld (r := [.string fn_0, .string r6, x4]) rfl rfl bo70 (mp_cons rfl (mp_cons rfl (mp_cons rfl rfl))) (fillP rfl rfl rfl rfl (fillP rfl rfl rfl rfl (fillP (cells_one h18) rfl rfl rfl (fillN rfl))))) ?_
      refine aops_nil ?_
      refine tail_n (m := 1) (is := [5]) (by decide +kernel) (by decide +kernel) rfl ⟨?_, trivial⟩
      obtain ⟨p9, aw10, hp11, ha12, H⟩ := H
      refine lk (dt := some 10) R35_1_N rfl rfl rfl (ov_box rfl rfl rfl rfl hp11 ha12) ?_
      refine aops_nil ?_
      refine tail_n (m := 0) (is := [6]) (by decide +kernel) (by decide +kernel) rfl ⟨?_, trivial⟩
      refine lk (dt := some 4) R35_1_N rfl rfl rfl (opv_assign rfl rfl rfl) ?_
      refine aops_nil ?_
      refine tail_0 (by decide +kernel) ?_
      exact ago_retE E35_4 (r := p9) (ares_1 rfl (oneT rfl)) rfl H
    · skip
      refine lk_call (dt := some 7) R35_1_N rfl rfl rfl (opc_of rfl rfl is41 (ma_cons rfl rfl)) H (fun _ _ h => ⟨rfl, h⟩) fun r6 aw7 H => ?_
      refine aops_nil ?_
      refine tail_n (m := 3) (is := [0]) (by decide +kernel) (by decide +kernel) rfl ⟨?_, trivial⟩
      refine lk (dt := some 5) R35_1_N rfl rfl rfl (opv_move rfl rfl h0) ?_
      refine aops_nil ?_
      refine tail_n (m := 2) (is := [4]) (by decide +kernel) (by decide +kernel) rfl ⟨?_, trivial⟩
      obtain ⟨h18, H⟩ := H
      refine lk (dt := some 9) R35_1_N rfl rfl rfl (ov_bld (r := [.string fn_0, .string r6, x4]) rfl rfl bo70 (mp_cons rfl (mp_cons rfl (mp_cons rfl rfl))) (fillP rfl rfl rfl rfl (fillP rfl rfl rfl rfl (fillP (cells_one h18) rfl rfl rfl (fillN rfl))))) ?_
      refine aops_nil ?_
      refine tail_n (m := 1) (is := [5]) (by decide +kernel) (by decide +kernel) rfl ⟨?_, trivial⟩
      obtain ⟨p9, aw10, hp11, ha12, H⟩ := H
      refine lk (dt := some 10) R35_1_N rfl rfl rfl (ov_box rfl rfl rfl rfl hp11 ha12) ?_
      refine aops_nil ?_
      refine tail_n (m := 0) (is := [6]) (by decide +kernel) (by decide +kernel) rfl ⟨?_, trivial⟩
      refine lk (dt := some 4) R35_1_N rfl rfl rfl (opv_assign rfl rfl rfl) ?_
      refine aops_nil ?_
      refine tail_0 (by decide +kernel) ?_
      exact ago_retE E35_4 (r := p9) (ares_1 rfl (oneT rfl)) rfl H
  refine tailAll_cons (hv' := [(1, Value.string str_1)]) rfl (pv_cons rfl (pv_nil _)) ?_ ?_
  · replace H := H.2.2.2
    refine tail_n (m := 5) (is := [0, 2, 3]) (by decide +kernel) (by decide +kernel) rfl ⟨?_, ?_, ?_, trivial⟩
    · replace H := H.1
      refine lk (dt := some 5) R35_1_N rfl rfl rfl (opv_move rfl rfl h0) ?_
      refine aops_nil ?_
      refine tail_n (m := 4) (is := [2, 3]) (by decide +kernel) (by decide +kernel) rfl ⟨?_, ?_, trivial⟩
      · replace H := H.1
        refine lk_call (dt := some 7) R35_1_N rfl rfl rfl (opc_of rfl rfl is41 (ma_cons rfl rfl)) H (fun _ _ h => ⟨rfl, h⟩) fun r6 aw7 H => ?_
        refine aops_nil ?_
        refine tail_n (m := 3) (is := [3]) (by decide +kernel) (by decide +kernel) rfl ⟨?_, trivial⟩
        obtain ⟨b8, i9, x11, hp10, hg12, H⟩ := H
        refine lk (dt := some 8) R35_1_N rfl rfl rfl (ov_ldV rfl underlying47 rfl rfl rfl hp10 hg12) ?_
        refine aops_nil ?_
        refine tail_n (m := 2) (is := [4]) (by decide +kernel) (by decide +kernel) rfl ⟨?_, trivial⟩
        obtain ⟨h113, H⟩ := H
        refine lk (dt := some 9) R35_1_N rfl rfl rfl (ov_bld (r := [.string fn_0, .string r6, x11]) rfl rfl bo70 (mp_cons rfl (mp_cons rfl (mp_cons rfl rfl))) (fillP rfl rfl rfl rfl (fillP rfl rfl rfl rfl (fillP (cells_one h113) rfl rfl rfl (fillN rfl))))) ?_
        refine aops_nil ?_
        refine tail_n (m := 1) (is := [5]) (by decide +kernel) (by decide +kernel) rfl ⟨?_, trivial⟩
        obtain ⟨p14, aw15, hp16, ha17, H⟩ := H
        refine lk (dt := some 10) R35_1_N rfl rfl rfl (ov_box rfl rfl rfl rfl hp16 ha17) ?_
        refine aops_nil ?_
        refine tail_n (m := 0) (is := [6]) (by decide +kernel) (by decide +kernel) rfl ⟨?_, trivial⟩
        refine lk (dt := some 4) R35_1_N rfl rfl rfl (opv_assign rfl rfl rfl) ?_
        refine aops_nil ?_
        refine tail_0 (by decide +kernel) ?_
        exact ago_retE E35_4 (r := p14) (ares_1 rfl (oneT rfl)) rfl H
      · replace H := H.2
        obtain ⟨b6, i7, x9, hp8, hg10, H⟩ := H
        refine lk (dt := some 8) R35_1_N rfl rfl rfl (ov_ldV rfl underlying47 rfl rfl rfl hp8 hg10) ?_
        refine aops_nil ?_
        refine tail_n (m := 3) (is := [2]) (by decide +kernel) (by decide +kernel) rfl ⟨?_, trivial⟩
        refine lk_call (dt := some 7) R35_1_N rfl rfl rfl (opc_of rfl rfl is41 (ma_cons rfl rfl)) H (fun _ _ h => ⟨rfl, h⟩) fun r11 aw12 H => ?_
        refine aops_nil ?_
        refine tail_n (m := 2) (is := [4]) (by decide +kernel) (by decide +kernel) rfl ⟨?_, trivial⟩
        obtain ⟨h113, H⟩ := H
        refine lk (dt := some 9) R35_1_N rfl rfl rfl (ov_bld (r := [.string fn_0, .string r11, x9]) rfl rfl bo70 (mp_cons rfl (mp_cons rfl (mp_cons rfl rfl))) (fillP rfl rfl rfl rfl (fillP rfl rfl rfl rfl (fillP (cells_one h113) rfl rfl rfl (fillN rfl))))) ?_
        refine aops_nil ?_
        refine tail_n (m := 1) (is := [5]) (by decide +kernel) (by decide +kernel) rfl ⟨?_, trivial⟩
        obtain ⟨p14, aw15, hp16, ha17, H⟩ := H
        refine lk (dt := some 10) R35_1_N rfl rfl rfl (ov_box rfl rfl rfl rfl hp16 ha17) ?_
        refine aops_nil ?_
        refine tail_n (m := 0) (is := [6]) (by decide +kernel) (by decide +kernel) rfl ⟨?_, trivial⟩
        refine lk (dt := some 4) R35_1_N rfl rfl rfl (opv_assign rfl rfl rfl) ?_
        refine aops_nil ?_
        refine tail_0 (by decide +kernel) ?_
        exact ago_retE E35_4 (r := p14) (ares_1 rfl (oneT rfl)) rfl H
    · replace H := H.2.1
      refine lk_call (dt := some 7) R35_1_N rfl rfl rfl (opc_of rfl rfl is41 (ma_cons rfl rfl)) H (fun _ _ h => ⟨rfl, h⟩) fun r6 aw7 H => ?_
      refine aops_nil ?_
      refine tail_n (m := 4) (is := [0, 3]) (by decide +kernel) (by decide +kernel) rfl ⟨?_, ?_, trivial⟩
      · skip
        refine lk (dt := some 5) R35_1_N rfl rfl rfl (opv_move rfl rfl h0) ?_
        refine aops_nil ?_
        refine tail_n (m := 3) (is := [3]) (by decide +kernel) (by decide +kernel) rfl ⟨?_, trivial⟩
        obtain ⟨b8, i9, x11, hp10, hg12, H⟩ := H
        refine lk (dt := some 8) R35_1_N rfl rfl rfl (ov_ldV rfl underlying47 rfl rfl rfl hp10 hg12) ?_
        refine aops_nil ?_
        refine tail_n (m := 2) (is := [4]) (by decide +kernel) (by decide +kernel) rfl ⟨?_, trivial⟩
        obtain ⟨h113, H⟩ := H
        refine lk (dt := some 9) R35_1_N rfl rfl rfl (ov_bld (r := [.string fn_0, .string r6, x11]) rfl rfl bo70 (mp_cons rfl (mp_cons rfl (mp_cons rfl rfl))) (fillP rfl rfl rfl rfl (fillP rfl rfl rfl rfl (fillP (cells_one h113) rfl rfl rfl (fillN rfl))))) ?_
        refine aops_nil ?_
        refine tail_n (m := 1) (is := [5]) (by decide +kernel) (by decide +kernel) rfl ⟨?_, trivial⟩
        obtain ⟨p14, aw15, hp16, ha17, H⟩ := H
        refine lk (dt := some 10) R35_1_N rfl rfl rfl (ov_box rfl rfl rfl rfl hp16 ha17) ?_
        refine aops_nil ?_
        refine tail_n (m := 0) (is := [6]) (by decide +kernel) (by decide +kernel) rfl ⟨?_, trivial⟩
        refine lk (dt := some 4) R35_1_N rfl rfl rfl (opv_assign rfl rfl rfl) ?_
        refine aops_nil ?_
        refine tail_0 (by decide +kernel) ?_
        exact ago_retE E35_4 (r := p14) (ares_1 rfl (oneT rfl)) rfl H
      · skip
        obtain ⟨b8, i9, x11, hp10, hg12, H⟩ := H
        refine lk (dt := some 8) R35_1_N rfl rfl rfl (ov_ldV rfl underlying47 rfl rfl rfl hp10 hg12) ?_
        refine aops_nil ?_
        refine tail_n (m := 3) (is := [0]) (by decide +kernel) (by decide +kernel) rfl ⟨?_, trivial⟩
        refine lk (dt := some 5) R35_1_N rfl rfl rfl (opv_move rfl rfl h0) ?_
        refine aops_nil ?_
        refine tail_n (m := 2) (is := [4]) (by decide +kernel) (by decide +kernel) rfl ⟨?_, trivial⟩
        obtain ⟨h113, H⟩ := H
        refine lk (dt := some 9) R35_1_N rfl rfl rfl (ov_bld (r := [.string fn_0, .string r6, x11]) rfl rfl bo70 (mp_cons rfl (mp_cons rfl (mp_cons rfl rfl))) (fillP rfl rfl rfl rfl (fillP rfl rfl rfl rfl (fillP (cells_one h113) rfl rfl rfl (fillN rfl))))) ?_
        refine aops_nil ?_
        refine tail_n (m := 1) (is := [5]) (by decide +kernel) (by decide +kernel) rfl ⟨?_, trivial⟩
        obtain ⟨p14, aw15, hp16, ha17, H⟩ := H
        refine lk (dt := some 10) R35_1_N rfl rfl rfl (ov_box rfl rfl rfl rfl hp16 ha17) ?_
        refine aops_nil ?_
        refine tail_n (m := 0) (is := [6]) (by decide +kernel) (by decide +kernel) rfl ⟨?_, trivial⟩
        refine lk (dt := some 4) R35_1_N rfl rfl rfl (opv_assign rfl rfl rfl) ?_
        refine aops_nil ?_
        refine tail_0 (by decide +kernel) ?_
        exact ago_retE E35_4 (r := p14) (ares_1 rfl (oneT rfl)) rfl H
    · replace H := H.2.2
      obtain ⟨b6, i7, x9, hp8, hg10, H⟩ := H
      refine lk (dt := some 8) R35_1_N rfl rfl rfl (ov_ldV rfl underlying47 rfl rfl rfl hp8 hg10) ?_
      refine aops_nil ?_
      refine tail_n (m := 4) (is := [0, 2]) (by decide +kernel) (by decide +kernel) rfl ⟨?_, ?_, trivial⟩
      · skip
        refine lk (dt := some 5) R35_1_N rfl rfl rfl (opv_move rfl rfl h0) ?_
        refine aops_nil ?_
        refine tail_n (m := 3) (is := [2]) (by decide +kernel) (by decide +kernel) rfl ⟨?_, trivial⟩
        refine lk_call (dt := some 7) R35_1_N rfl rfl rfl (opc_of rfl rfl is41 (ma_cons rfl rfl)) H (fun _ _ h => ⟨rfl, h⟩) fun r11 aw12 H => ?_
        refine aops_nil ?_
        refine tail_n (m := 2) (is := [4]) (by decide +kernel) (by decide +kernel) rfl ⟨?_, trivial⟩
        obtain ⟨h113, H⟩ := H
        refine lk (dt := some 9) R35_1_N rfl rfl rfl (ov_bld (r := [.string fn_0, .string r11, x9]) rfl rfl bo70 (mp_cons rfl (mp_cons rfl (mp_cons rfl rfl))) (fillP rfl rfl rfl rfl (fillP rfl rfl rfl rfl (fillP (cells_one h113) rfl rfl rfl (fillN rfl))))) ?_
        refine aops_nil ?_
        refine tail_n (m := 1) (is := [5]) (by decide +kernel) (by decide +kernel) rfl ⟨?_, trivial⟩
        obtain ⟨p14, aw15, hp16, ha17, H⟩ := H
        refine lk (dt := some 10) R35_1_N rfl rfl rfl (ov_box rfl rfl rfl rfl hp16 ha17) ?_
        refine aops_nil ?_
        refine tail_n (m := 0) (is := [6]) (by decide +kernel) (by decide +kernel) rfl ⟨?_, trivial⟩
        refine lk (dt := some 4) R35_1_N rfl rfl rfl (opv_assign rfl rfl rfl) ?_
        refine aops_nil ?_
        refine tail_0 (by decide +kernel) ?_
        exact ago_retE E35_4 (r := p14) (ares_1 rfl (oneT rfl)) rfl H
      · skip
        refine lk_call (dt := some 7) R35_1_N rfl rfl rfl (opc_of rfl rfl is41 (ma_cons rfl rfl)) H (fun _ _ h => ⟨rfl, h⟩) fun r11 aw12 H => ?_
        refine aops_nil ?_
        refine tail_n (m := 3) (is := [0]) (by decide +kernel) (by decide +kernel) rfl ⟨?_, trivial⟩
        refine lk (dt := some 5) R35_1_N rfl rfl rfl (opv_move rfl rfl h0) ?_
        refine aops_nil ?_
        refine tail_n (m := 2) (is := [4]) (by decide +kernel) (by decide +kernel) rfl ⟨?_, trivial⟩
        obtain ⟨h113, H⟩ := H
        refine lk (dt := some 9) R35_1_N rfl rfl rfl (ov_bld (r := [.string fn_0, .string r11, x9]) rfl rfl bo70 (mp_cons rfl (mp_cons rfl (mp_cons rfl rfl))) (fillP rfl rfl rfl rfl (fillP rfl rfl rfl rfl (fillP (cells_one h113) rfl rfl rfl (fillN rfl))))) ?_
        refine aops_nil ?_
        refine tail_n (m := 1) (is := [5]) (by decide +kernel) (by decide +kernel) rfl ⟨?_, trivial⟩
        obtain ⟨p14, aw15, hp16, ha17, H⟩ := H
        refine lk (dt := some 10) R35_1_N rfl rfl rfl (ov_box rfl rfl rfl rfl hp16 ha17) ?_
        refine aops_nil ?_
        refine tail_n (m := 0) (is := [6]) (by decide +kernel) (by decide +kernel) rfl ⟨?_, trivial⟩
        refine lk (dt := some 4) R35_1_N rfl rfl rfl (opv_assign rfl rfl rfl) ?_
        refine aops_nil ?_
        refine tail_0 (by decide +kernel) ?_
        exact ago_retE E35_4 (r := p14) (ares_1 rfl (oneT rfl)) rfl H
  exact trivial
theorem F35_ok {Q : Value → AW → Prop} {E : List PanicEntry → AW → Prop} (fn_0 : ByteArray) (str_1 : ByteArray) (aw : AW) (H : S35_0 Q E fn_0 str_1 aw) : CallP prog 35 [.string fn_0, .string str_1] aw sh35 Q E :=
  callP_of func35 C35_is rfl (Nat.le_of_ble_eq_true rfl) (S35_0_ok Q E _ fn_0 str_1 aw rfl rfl H)
/-! ### strconv.toError: function 30 -/
noncomputable def C30_0 : Code := bodyOf f30
theorem C30_is : f30.body = some C30_0 := by kernel_rfl
noncomputable def C30_1 : Code := cl C30_0
noncomputable def R30_0 : Array Oper := regOps C30_1
noncomputable def C30_2 : Code := cr C30_0
noncomputable def C30_3 : Code := cl C30_2
noncomputable def C30_4 : Code := cl C30_3
noncomputable def R30_1 : Array Oper := regOps C30_4
noncomputable def C30_5 : Code := cr C30_3
noncomputable def C30_6 : Code := cl C30_5
noncomputable def C30_7 : Code := cl C30_6
noncomputable def R30_2 : Array Oper := regOps C30_7
noncomputable def C30_8 : Code := cr C30_6
noncomputable def C30_9 : Code := cl C30_8
noncomputable def C30_10 : Code := cl C30_9
noncomputable def R30_3 : Array Oper := regOps C30_10
noncomputable def C30_11 : Code := cr C30_9
noncomputable def C30_12 : Code := cr C30_8
noncomputable def C30_13 : Code := cl C30_12
noncomputable def R30_4 : Array Oper := regOps C30_13
noncomputable def C30_14 : Code := cr C30_12
noncomputable def C30_15 : Code := cl C30_14
noncomputable def C30_16 : Code := cl C30_15
noncomputable def R30_5 : Array Oper := regOps C30_16
noncomputable def C30_17 : Code := cr C30_15
noncomputable def C30_18 : Code := cr C30_14
noncomputable def C30_19 : Code := cl C30_18
noncomputable def R30_6 : Array Oper := regOps C30_19
noncomputable def C30_20 : Code := cr C30_18
noncomputable def C30_21 : Code := cl C30_20
noncomputable def C30_22 : Code := cl C30_21
noncomputable def R30_7 : Array Oper := regOps C30_22
noncomputable def C30_23 : Code := cr C30_21
noncomputable def C30_24 : Code := cr C30_20
noncomputable def C30_25 : Code := cl C30_24
noncomputable def R30_8 : Array Oper := regOps C30_25
noncomputable def C30_26 : Code := cr C30_24
noncomputable def C30_27 : Code := cl C30_26
noncomputable def C30_28 : Code := cl C30_27
noncomputable def R30_9 : Array Oper := regOps C30_28
noncomputable def C30_29 : Code := cr C30_27
noncomputable def C30_30 : Code := cr C30_26
noncomputable def C30_31 : Code := cr C30_2
noncomputable def C30_32 : Code := cl C30_31
noncomputable def R30_10 : Array Oper := regOps C30_32
noncomputable def C30_33 : Code := cr C30_31
theorem R30_0_N : dstsOk 43 R30_0 = true := by decide +kernel
theorem E30_1 : C30_1 = .region 0 R30_0 false := rfl
theorem R30_1_N : dstsOk 43 R30_1 = true := by decide +kernel
theorem E30_4 : C30_4 = .region 1 R30_1 false := rfl
theorem R30_2_N : dstsOk 43 R30_2 = true := by decide +kernel
theorem E30_7 : C30_7 = .region 2 R30_2 false := rfl
theorem R30_3_N : dstsOk 43 R30_3 = true := by decide +kernel
theorem E30_10 : C30_10 = .region 3 R30_3 false := rfl
theorem E30_11 : C30_11 = .ret := rfl
theorem E30_9 : C30_9 = .seq C30_10 C30_11 := rfl
theorem R30_4_N : dstsOk 43 R30_4 = true := by decide +kernel
theorem E30_13 : C30_13 = .region 4 R30_4 false := rfl
theorem R30_5_N : dstsOk 43 R30_5 = true := by decide +kernel
theorem E30_16 : C30_16 = .region 5 R30_5 false := rfl
theorem E30_17 : C30_17 = .ret := rfl
theorem E30_15 : C30_15 = .seq C30_16 C30_17 := rfl
theorem R30_6_N : dstsOk 43 R30_6 = true := by decide +kernel
theorem E30_19 : C30_19 = .region 6 R30_6 false := rfl
theorem R30_7_N : dstsOk 43 R30_7 = true := by decide +kernel
theorem E30_22 : C30_22 = .region 7 R30_7 false := rfl
theorem E30_23 : C30_23 = .ret := rfl
theorem E30_21 : C30_21 = .seq C30_22 C30_23 := rfl
theorem R30_8_N : dstsOk 43 R30_8 = true := by decide +kernel
theorem E30_25 : C30_25 = .region 8 R30_8 false := rfl
theorem R30_9_N : dstsOk 43 R30_9 = true := by decide +kernel
theorem E30_28 : C30_28 = .region 9 R30_9 false := rfl
theorem E30_29 : C30_29 = .ret := rfl
theorem E30_27 : C30_27 = .seq C30_28 C30_29 := rfl
theorem E30_30 : C30_30 = .skip := rfl
theorem E30_26 : C30_26 = .cond (.tmp 34) C30_27 C30_30 := rfl
theorem E30_24 : C30_24 = .seq C30_25 C30_26 := rfl
theorem E30_20 : C30_20 = .cond (.tmp 26) C30_21 C30_24 := rfl
theorem E30_18 : C30_18 = .seq C30_19 C30_20 := rfl
theorem E30_14 : C30_14 = .cond (.tmp 19) C30_15 C30_18 := rfl
theorem E30_12 : C30_12 = .seq C30_13 C30_14 := rfl
theorem E30_8 : C30_8 = .cond (.tmp 12) C30_9 C30_12 := rfl
theorem E30_6 : C30_6 = .seq C30_7 C30_8 := rfl
theorem E30_5 : C30_5 = .block 0 C30_6 := rfl
theorem E30_3 : C30_3 = .seq C30_4 C30_5 := rfl
theorem R30_10_N : dstsOk 43 R30_10 = true := by decide +kernel
theorem E30_32 : C30_32 = .region 10 R30_10 false := rfl
theorem E30_33 : C30_33 = .ret := rfl
theorem E30_31 : C30_31 = .seq C30_32 C30_33 := rfl
theorem E30_2 : C30_2 = .seq C30_3 C30_31 := rfl
theorem E30_0 : C30_0 = .seq C30_1 C30_2 := rfl
def S30_0 (Q : Value → AW → Prop) (E : List PanicEntry → AW → Prop)  (fn_0 : ByteArray) (s_1 : ByteArray) (base_2 : Int) (bitSize_3 : Int) (err_4 : Value) (aw : AW) : Prop :=
  ∃ q1, IfEq prog err_4 (.iface 58 (.int .i64 2)) q1 ∧ cnd q1 (CallP prog 34 [.string fn_0, .string s_1] aw sh34 (fun r4 aw5 =>
  Q (.iface 63 r4) aw5) E) (∃ q6, IfEq prog err_4 (.iface 58 (.int .i64 1)) q6 ∧ cnd q6 (CallP prog 35 [.string fn_0, .string s_1] aw sh35 (fun r9 aw10 =>
  Q (.iface 63 r9) aw10) E) (∃ q11, IfEq prog err_4 (.iface 58 (.int .i64 3)) q11 ∧ cnd q11 (CallP prog 36 [.string fn_0, .string s_1, .int .i64 base_2] aw sh36 (fun r14 aw15 =>
  Q (.iface 63 r14) aw15) E) (∃ q16, IfEq prog err_4 (.iface 58 (.int .i64 4)) q16 ∧ cnd q16 (CallP prog 37 [.string fn_0, .string s_1, .int .i64 bitSize_3] aw sh37 (fun r19 aw20 =>
  Q (.iface 63 r19) aw20) E) (Q err_4 aw))))
set_option maxHeartbeats 4000000 in
set_option maxRecDepth 100000 in
theorem S30_0_ok (Q : Value → AW → Prop) (E : List PanicEntry → AW → Prop)  (ρ : Env) (fn_0 : ByteArray) (s_1 : ByteArray) (base_2 : Int) (bitSize_3 : Int) (err_4 : Value) (aw : AW) (h0 : ρ 0 = .string fn_0) (h1 : ρ 1 = .string s_1) (h2 : ρ 2 = .int .i64 base_2) (h3 : ρ 3 = .int .i64 bitSize_3) (h4 : ρ 4 = err_4) (H : S30_0 Q E  fn_0 s_1 base_2 bitSize_3 err_4 aw) :
    AGo prog 43 [.code C30_0] ρ [] aw (RR prog f30 43 sh30 Q E) := by
  unfold S30_0 at H
  refine ago_seqE E30_0 ?_
  refine ago_regE E30_1 (l := [0]) rfl ?_
  refine lk (dt := some 10) R30_0_N rfl rfl rfl (opv_assign rfl rfl rfl) ?_
  refine aops_nil ?_
  refine ago_seqE E30_2 ?_
  refine ago_seqE E30_3 ?_
  refine ago_regE E30_4 (l := [0]) rfl ?_
  refine lk (dt := some 11) R30_1_N rfl rfl rfl (opv_move rfl rfl h4) ?_
  refine aops_nil ?_
  refine ago_blockE E30_5 ?_
  refine ago_seqE E30_6 ?_
  refine ago_regE E30_7 (l := [0, 1, 2]) rfl ?_
  refine lk (dt := some 13) R30_2_N rfl rfl rfl (opv_mkIface rfl rfl underlying58 rfl rfl) ?_
  obtain ⟨q1, hq2, H⟩ := H
  refine lk (dt := some 14) R30_2_N rfl rfl rfl (ov_ifEq rfl rfl rfl underlying47 rfl rfl hq2) ?_
  refine lk (dt := some 12) R30_2_N rfl rfl rfl (opv_assign rfl rfl rfl) ?_
  refine aops_nil ?_
  refine ago_condE  E30_8 rfl rfl (fun hb3 => ?_) (fun hb3 => ?_)
  · replace H := cnd_t H hb3
    refine ago_seqE E30_9 ?_
    refine ago_regE E30_10 (l := [0, 1, 2, 3, 4]) rfl ?_
    refine lk (dt := some 15) R30_3_N rfl rfl rfl (opv_move rfl rfl h0) ?_
    refine lk (dt := some 16) R30_3_N rfl rfl rfl (opv_move rfl rfl h1) ?_
    refine lk_call (dt := some 17) R30_3_N rfl rfl rfl (opc_of rfl rfl is34 (ma_cons rfl (ma_cons rfl rfl))) H (fun _ _ h => ⟨rfl, h⟩) fun r4 aw5 H => ?_
    refine lk (dt := some 18) R30_3_N rfl rfl rfl (opv_mkIface rfl rfl underlying63 rfl rfl) ?_
    refine lk (dt := some 10) R30_3_N rfl rfl rfl (opv_assign rfl rfl rfl) ?_
    refine aops_nil ?_
    exact ago_retE E30_11 (r := (.iface 63 r4)) (ares_1 rfl (oneT rfl)) rfl H
  · replace H := cnd_f H hb3
    refine ago_seqE E30_12 ?_
    refine ago_regE E30_13 (l := [0, 1, 2]) rfl ?_
    refine lk (dt := some 20) R30_4_N rfl rfl rfl (opv_mkIface rfl rfl underlying58 rfl rfl) ?_
    obtain ⟨q6, hq7, H⟩ := H
    refine lk (dt := some 21) R30_4_N rfl rfl rfl (ov_ifEq rfl rfl rfl underlying47 rfl rfl hq7) ?_
    refine lk (dt := some 19) R30_4_N rfl rfl rfl (opv_assign rfl rfl rfl) ?_
    refine aops_nil ?_
    refine ago_condE  E30_14 rfl rfl (fun hb8 => ?_) (fun hb8 => ?_)
    · replace H := cnd_t H hb8
      refine ago_seqE E30_15 ?_
      refine ago_regE E30_16 (l := [0, 1, 2, 3, 4]) rfl ?_
      refine lk (dt := some 22) R30_5_N rfl rfl rfl (opv_move rfl rfl h0) ?_
      refine lk (dt := some 23) R30_5_N rfl rfl rfl (opv_move rfl rfl h1) ?_
      refine lk_call (dt := some 24) R30_5_N rfl rfl rfl (opc_of rfl rfl is35 (ma_cons rfl (ma_cons rfl rfl))) H (fun _ _ h => ⟨rfl, h⟩) fun r9 aw10 H => ?_
      refine lk (dt := some 25) R30_5_N rfl rfl rfl (opv_mkIface rfl rfl underlying63 rfl rfl) ?_
      refine lk (dt := some 10) R30_5_N rfl rfl rfl (opv_assign rfl rfl rfl) ?_
      refine aops_nil ?_
      exact ago_retE E30_17 (r := (.iface 63 r9)) (ares_1 rfl (oneT rfl)) rfl H
    · replace H := cnd_f H hb8
      refine ago_seqE E30_18 ?_
      refine ago_regE E30_19 (l := [0, 1, 2]) rfl ?_
      refine lk (dt := some 27) R30_6_N rfl rfl rfl (opv_mkIface rfl rfl underlying58 rfl rfl) ?_
      obtain ⟨q11, hq12, H⟩ := H
      refine lk (dt := some 28) R30_6_N rfl rfl rfl (ov_ifEq rfl rfl rfl underlying47 rfl rfl hq12) ?_
      refine lk (dt := some 26) R30_6_N rfl rfl rfl (opv_assign rfl rfl rfl) ?_
      refine aops_nil ?_
      refine ago_condE  E30_20 rfl rfl (fun hb13 => ?_) (fun hb13 => ?_)
      · replace H := cnd_t H hb13
        refine ago_seqE E30_21 ?_
        refine ago_regE E30_22 (l := [0, 1, 2, 3, 4, 5]) rfl ?_
        refine lk (dt := some 29) R30_7_N rfl rfl rfl (opv_move rfl rfl h0) ?_
        refine lk (dt := some 30) R30_7_N rfl rfl rfl (opv_move rfl rfl h1) ?_
        refine lk (dt := some 31) R30_7_N rfl rfl rfl (opv_move rfl rfl h2) ?_
        refine lk_call (dt := some 32) R30_7_N rfl rfl rfl (opc_of rfl rfl is36 (ma_cons rfl (ma_cons rfl (ma_cons rfl rfl)))) H (fun _ _ h => ⟨rfl, h⟩) fun r14 aw15 H => ?_
        refine lk (dt := some 33) R30_7_N rfl rfl rfl (opv_mkIface rfl rfl underlying63 rfl rfl) ?_
        refine lk (dt := some 10) R30_7_N rfl rfl rfl (opv_assign rfl rfl rfl) ?_
        refine aops_nil ?_
        exact ago_retE E30_23 (r := (.iface 63 r14)) (ares_1 rfl (oneT rfl)) rfl H
      · replace H := cnd_f H hb13
        refine ago_seqE E30_24 ?_
        refine ago_regE E30_25 (l := [0, 1, 2]) rfl ?_
        refine lk (dt := some 35) R30_8_N rfl rfl rfl (opv_mkIface rfl rfl underlying58 rfl rfl) ?_
        obtain ⟨q16, hq17, H⟩ := H
        refine lk (dt := some 36) R30_8_N rfl rfl rfl (ov_ifEq rfl rfl rfl underlying47 rfl rfl hq17) ?_
        refine lk (dt := some 34) R30_8_N rfl rfl rfl (opv_assign rfl rfl rfl) ?_
        refine aops_nil ?_
        refine ago_condE  E30_26 rfl rfl (fun hb18 => ?_) (fun hb18 => ?_)
        · replace H := cnd_t H hb18
          refine ago_seqE E30_27 ?_
          refine ago_cut (fun ρ => ρ 0 = .string fn_0 ∧ ρ 1 = .string s_1 ∧ ρ 3 = .int .i64 bitSize_3 ∧ True) ⟨h0, h1, h3, trivial⟩ (fun ρ ⟨h0, h1, h3, _⟩ => ?_)
          refine ago_regE E30_28 (l := [0, 1, 2, 3, 4, 5]) rfl ?_
          refine lk (dt := some 37) R30_9_N rfl rfl rfl (opv_move rfl rfl h0) ?_
          refine lk (dt := some 38) R30_9_N rfl rfl rfl (opv_move rfl rfl h1) ?_
          refine lk (dt := some 39) R30_9_N rfl rfl rfl (opv_move rfl rfl h3) ?_
          refine lk_call (dt := some 40) R30_9_N rfl rfl rfl (opc_of rfl rfl is37 (ma_cons rfl (ma_cons rfl (ma_cons rfl rfl)))) H (fun _ _ h => ⟨rfl, h⟩) fun r19 aw20 H => ?_
          refine lk (dt := some 41) R30_9_N rfl rfl rfl (opv_mkIface rfl rfl underlying63 rfl rfl) ?_
          refine lk (dt := some 10) R30_9_N rfl rfl rfl (opv_assign rfl rfl rfl) ?_
          refine aops_nil ?_
          exact ago_retE E30_29 (r := (.iface 63 r19)) (ares_1 rfl (oneT rfl)) rfl H
        · replace H := cnd_f H hb18
          refine ago_skipE E30_30 ?_
          refine ago_inBlock ?_
          refine ago_seqE E30_31 ?_
          refine ago_cut (fun ρ => ρ 4 = err_4 ∧ True) ⟨h4, trivial⟩ (fun ρ ⟨h4, _⟩ => ?_)
          refine ago_regE E30_32 (l := [0, 1]) rfl ?_
          refine lk (dt := some 42) R30_10_N rfl rfl rfl (opv_move rfl rfl h4) ?_
          refine lk (dt := some 10) R30_10_N rfl rfl rfl (opv_assign rfl rfl rfl) ?_
          refine aops_nil ?_
          exact ago_retE E30_33 (r := err_4) (ares_1 rfl (oneT rfl)) rfl H
theorem F30_ok {Q : Value → AW → Prop} {E : List PanicEntry → AW → Prop} (fn_0 : ByteArray) (s_1 : ByteArray) (base_2 : Int) (bitSize_3 : Int) (err_4 : Value) (aw : AW) (H : S30_0 Q E fn_0 s_1 base_2 bitSize_3 err_4 aw) : CallP prog 30 [.string fn_0, .string s_1, .int .i64 base_2, .int .i64 bitSize_3, err_4] aw sh30 Q E :=
  callP_of func30 C30_is rfl (Nat.le_of_ble_eq_true rfl) (S30_0_ok Q E _ fn_0 s_1 base_2 bitSize_3 err_4 aw rfl rfl rfl rfl rfl H)
end Go.Proofs.Tryd
