/- Printed by a program of the prover: what the Go functions of this seat do, in steps. -/
import Derived.Test.YtfgihmgeplcfoaaGreatDoorNaF
set_option linter.unusedSectionVars false
set_option linter.unusedSimpArgs false
set_option linter.unusedVariables false
namespace Go.Proofs.Tryz
open Go Go.Am Go.RowKit
set_option maxHeartbeats 4000000
set_option maxRecDepth 100000
noncomputable section
variable [SymE]
def C32_0 := bodyOf f32
theorem C32_is : f32.body = some C32_0 := by kernel_rfl
def C32_1 := cl C32_0
def R32_0 := regOps C32_1
def C32_2 := cr C32_0
def C32_3 := cl C32_2
def C32_4 := cl C32_3
def R32_1 := regOps C32_4
def C32_5 := cr C32_3
def C32_6 := cl C32_5
def C32_7 := cl C32_6
def R32_2 := regOps C32_7
def C32_8 := cr C32_6
def C32_9 := cr C32_5
def C32_10 := cr C32_2
def C32_11 := cl C32_10
def R32_3 := regOps C32_11
def C32_12 := cr C32_10
theorem R32_0_N : dstsOk 8 R32_0 = true := by decide +kernel
theorem R32_1_N : dstsOk 8 R32_1 = true := by decide +kernel
theorem R32_2_N : dstsOk 8 R32_2 = true := by decide +kernel
theorem R32_3_N : dstsOk 8 R32_3 = true := by decide +kernel
def S32_0 (Q : Value → AW → Prop) (E : List PanicEntry → AW → Prop)  (s_0 : Value) (aw : AW) : Prop :=
  nilB (.slice 5) s_0 (.slice none 0 0) fun q1 =>
  cnd q1 (Q (.slice none 0 0) aw) (alcS aw [] 5 1 0 fun p5 aw6 =>
  app aw6 5 1 1 p5 s_0 fun v9 aw10 =>
  Q v9 aw10)
theorem S32_0_ok (Q : Value → AW → Prop) (E : List PanicEntry → AW → Prop)  (ρ : Env) (s_0 : Value) (aw : AW) (h0 : ρ 0 = s_0) (H : S32_0 Q E  s_0 aw) :
    AGo prog 8 [.code C32_0] ρ [] aw (RR prog f32 8 sh32 Q E) := by
  unfold S32_0 at H
  refine ago_seqE (rfl : C32_0 = .seq C32_1 C32_2) ?_
  refine ago_regE (rfl : C32_1 = .region 0 R32_0 false) (l := [0]) rfl ?_
  refine lj 2 R32_0_N rfl rfl rfl (opv_assign rfl rfl rfl) ?_
  refine aops_nil ?_
  refine ago_seqE (rfl : C32_2 = .seq C32_3 C32_10) ?_
  refine ago_seqE (rfl : C32_3 = .seq C32_4 C32_5) ?_
  refine ago_regE (rfl : C32_4 = .region 1 R32_1 false) (l := [0, 1]) rfl ?_
  refine lj 3 R32_1_N rfl rfl rfl (opv_move rfl rfl h0) ?_
  obtain ⟨q1, hf2, hq3, H⟩ := H
  refine lj 4 R32_1_N rfl rfl rfl (ov_eqNil rfl rfl underlying30 rfl hf2 hq3) ?_
  refine aops_nil ?_
  refine ago_condE  (rfl : C32_5 = .cond (.tmp 4) C32_6 C32_9) rfl rfl (fun hb4 => ?_) (fun hb4 => ?_)
  · replace H := cnd_t H hb4
    refine ago_seqE (rfl : C32_6 = .seq C32_7 C32_8) ?_
    refine ago_regE (rfl : C32_7 = .region 2 R32_2 false) (l := [0]) rfl ?_
    refine lj 2 R32_2_N rfl rfl rfl (opv_assign rfl rfl rfl) ?_
    refine aops_nil ?_
    exact ago_retE (rfl : C32_8 = .ret) (r := (.slice none 0 0)) (ares_1 rfl (oneT rfl)) rfl H
  replace H := cnd_f H hb4
  refine ago_skipE (rfl : C32_9 = .skip) ?_
  refine ago_seqE (rfl : C32_10 = .seq C32_11 C32_12) ?_
  refine ago_regE (rfl : C32_11 = .region 3 R32_3 false) (l := [0, 1, 2, 3]) rfl ?_
  obtain ⟨p5, aw6, hp7, ha8, H⟩ := H
  refine lj 5 R32_3_N rfl rfl rfl (ov_bs0 rfl underlying30 sz5 hp7 ha8) ?_
  refine lj 6 R32_3_N rfl rfl rfl (opv_move rfl rfl h0) ?_
  obtain ⟨v9, aw10, hq11, H⟩ := H
  refine lj 7 R32_3_N rfl rfl rfl (ov_app rfl rfl rfl rfl underlying30 sz5 by5 underlying30 rfl z5 rfl (by decide) (by decide) rfl rfl hq11) ?_
  refine lj 2 R32_3_N rfl rfl rfl (opv_assign rfl rfl rfl) ?_
  refine aops_nil ?_
  exact ago_retE (rfl : C32_12 = .ret) (r := v9) (ares_1 rfl (oneT rfl)) rfl H
theorem F32_ok {Q : Value → AW → Prop} {E : List PanicEntry → AW → Prop} (s_0 : Value) (aw : AW) (H : S32_0 Q E s_0 aw) : CallP prog 32 [s_0] aw sh32 Q E :=
  callP_of func32 C32_is rfl (Nat.le_of_ble_eq_true rfl) (S32_0_ok Q E _ s_0 aw rfl H)
def C35_0 := bodyOf f35
theorem C35_is : f35.body = some C35_0 := by kernel_rfl
def C35_1 := cl C35_0
def R35_0 := regOps C35_1
def C35_2 := cr C35_0
def C35_3 := cl C35_2
def R35_1 := regOps C35_3
def C35_4 := cr C35_2
theorem R35_0_N : dstsOk 7 R35_0 = true := by decide +kernel
theorem R35_1_N : dstsOk 7 R35_1 = true := by decide +kernel
def S35_0 (Q : Unit → AW → Prop) (E : List PanicEntry → AW → Prop)  (r_0 : Value) (aw : AW) : Prop :=
  nilB (.pointer 84) r_0 (.pointer none) fun q1 =>
  cnd (!q1) (nck r_0 (fldA r_0 1 fun p6 =>
  st aw p6 [.bool true] fun aw11 =>
  Q () aw11)) (Q () aw)
theorem S35_0_ok (Q : Unit → AW → Prop) (E : List PanicEntry → AW → Prop)  (ρ : Env) (r_0 : Value) (aw : AW) (h0 : ρ 0 = r_0) (H : S35_0 Q E  r_0 aw) :
    AGo prog 7 [.code C35_0] ρ [] aw (RR prog f35 7 sh35 Q E) := by
  unfold S35_0 at H
  refine ago_seqE (rfl : C35_0 = .seq C35_1 C35_2) ?_
  refine ago_regE (rfl : C35_1 = .region 0 R35_0 false) (l := [0, 1]) rfl ?_
  refine lj 2 R35_0_N rfl rfl rfl (opv_move rfl rfl h0) ?_
  obtain ⟨q1, hf2, hq3, H⟩ := H
  refine lj 3 R35_0_N rfl rfl rfl (ov_neNil rfl rfl underlying54 rfl hf2 hq3) ?_
  refine aops_nil ?_
  refine ago_condE  (rfl : C35_2 = .cond (.tmp 3) C35_3 C35_4) rfl rfl (fun hb4 => ?_) (fun hb4 => ?_)
  · replace H := cnd_t H hb4
    refine ago_regE (rfl : C35_3 = .region 1 R35_1 false) (l := [0, 1, 2, 3]) rfl ?_
    refine lj 4 R35_1_N rfl rfl rfl (opv_move rfl rfl h0) ?_
    obtain ⟨hp5, H⟩ := H
    refine lj 5 R35_1_N rfl rfl rfl (ov_nck rfl rfl rfl hp5) ?_
    obtain ⟨b7, i8, p6, hp9, hv10, H⟩ := H
    refine lj 6 R35_1_N rfl rfl rfl (ov_fldA rfl rfl underlying84 rfl sz4 (by decide) rfl hp9 rfl hv10) ?_
    obtain ⟨b12, i13, aw11, hp14, hw15, ho16, ha17, H⟩ := H
    refine lk (dt := none) R35_1_N rfl rfl rfl (ov_st rfl rfl rfl rfl rfl rfl sz4 hp14 hw15 ho16 ha17) ?_
    refine aops_nil ?_
    exact ago_nilR (r := ()) (ares_0 rfl ) rfl H
  replace H := cnd_f H hb4
  refine ago_skipE (rfl : C35_4 = .skip) ?_
  exact ago_nilR (r := ()) (ares_0 rfl ) rfl H
theorem F35_ok {Q : Unit → AW → Prop} {E : List PanicEntry → AW → Prop} (r_0 : Value) (aw : AW) (H : S35_0 Q E r_0 aw) : CallP prog 35 [r_0] aw sh35 Q E :=
  callP_of func35 C35_is rfl (Nat.le_of_ble_eq_true rfl) (S35_0_ok Q E _ r_0 aw rfl H)
def C21_0 := bodyOf f21
theorem C21_is : f21.body = some C21_0 := by kernel_rfl
def C21_1 := cl C21_0
def R21_0 := regOps C21_1
def C21_2 := cr C21_0
def C21_3 := cl C21_2
def R21_1 := regOps C21_3
def C21_4 := cr C21_2
theorem R21_0_N : dstsOk 11 R21_0 = true := by decide +kernel
theorem R21_1_N : dstsOk 11 R21_1 = true := by decide +kernel
def S21_0 (Q : Bool → AW → Prop) (E : List PanicEntry → AW → Prop)  (r_0 : Value) (aw : AW) : Prop :=
  nilB (.pointer 84) r_0 (.pointer none) fun q1 =>
  cnd q1 (Q true aw) (nck r_0 (fldA r_0 1 fun p6 =>
  ldB aw p6 fun x14 =>
  Q x14 aw))
theorem S21_0_ok (Q : Bool → AW → Prop) (E : List PanicEntry → AW → Prop)  (ρ : Env) (r_0 : Value) (aw : AW) (h0 : ρ 0 = r_0) (H : S21_0 Q E  r_0 aw) :
    AGo prog 11 [.code C21_0] ρ [] aw (RR prog f21 11 sh21 Q E) := by
  unfold S21_0 at H
  refine ago_seqE (rfl : C21_0 = .seq C21_1 C21_2) ?_
  refine ago_regE (rfl : C21_1 = .region 0 R21_0 false) (l := [0]) rfl ?_
  refine lj 2 R21_0_N rfl rfl rfl (opv_assign rfl rfl rfl) ?_
  refine aops_nil ?_
  refine ago_seqE (rfl : C21_2 = .seq C21_3 C21_4) ?_
  refine ago_regE (rfl : C21_3 = .region 1 R21_1 false) (l := [0, 1, 2, 3, 4, 5, 6, 7, 8]) rfl ?_
  refine lj 3 R21_1_N rfl rfl rfl (opv_move rfl rfl h0) ?_
  obtain ⟨q1, hf2, hq3, H⟩ := H
  refine lj 4 R21_1_N rfl rfl rfl (ov_eqNil rfl rfl underlying54 rfl hf2 hq3) ?_
  refine lj 5 R21_1_N rfl rfl rfl (opv_move rfl rfl rfl) ?_
  rcases Bool.eq_false_or_eq_true q1 with hb4 | hb4
  · replace H := cnd_t H hb4
    refine ls 6 R21_1_N rfl rfl ⟨_, rfl, .inl ⟨_, rfl, gq hb4 rfl⟩⟩ ?_
    refine ls 7 R21_1_N rfl rfl ⟨_, rfl, .inl ⟨_, rfl, gq hb4 rfl⟩⟩ ?_
    refine ls 8 R21_1_N rfl rfl ⟨_, rfl, .inl ⟨_, rfl, gq hb4 rfl⟩⟩ ?_
    refine ls 9 R21_1_N rfl rfl ⟨_, rfl, .inl ⟨_, rfl, gq hb4 rfl⟩⟩ ?_
    refine lj 10 R21_1_N rfl rfl rfl (ov_pickT rfl rfl rfl rfl rfl hb4 rfl) ?_
    refine lj 2 R21_1_N rfl rfl rfl (opv_assign rfl rfl rfl) ?_
    refine aops_nil ?_
    exact ago_retE (rfl : C21_4 = .ret) (r := true) (ares_1 rfl (oneT rfl)) rfl H
  · replace H := cnd_f H hb4
    refine lj 6 R21_1_N rfl rfl ⟨_, rfl, .inl ⟨_, rfl, gq hb4 rfl⟩⟩ (opv_move rfl rfl h0) ?_
    obtain ⟨hp5, H⟩ := H
    refine lj 7 R21_1_N rfl rfl ⟨_, rfl, .inl ⟨_, rfl, gq hb4 rfl⟩⟩ (ov_nck rfl rfl rfl hp5) ?_
    obtain ⟨b7, i8, p6, hp9, hv10, H⟩ := H
    refine lj 8 R21_1_N rfl rfl ⟨_, rfl, .inl ⟨_, rfl, gq hb4 rfl⟩⟩ (ov_fldA rfl rfl underlying84 rfl sz4 (by decide) rfl hp9 rfl hv10) ?_
    obtain ⟨b11, i12, x14, hp13, hg15, H⟩ := H
    refine lj 9 R21_1_N rfl rfl ⟨_, rfl, .inl ⟨_, rfl, gq hb4 rfl⟩⟩ (ov_ldB rfl underlying4 rfl rfl hp13 hg15) ?_
    refine lj 10 R21_1_N rfl rfl rfl (ov_pickF rfl rfl rfl rfl rfl hb4 rfl) ?_
    refine lj 2 R21_1_N rfl rfl rfl (opv_assign rfl rfl rfl) ?_
    refine aops_nil ?_
    exact ago_retE (rfl : C21_4 = .ret) (r := x14) (ares_1 rfl (oneT rfl)) rfl H
theorem F21_ok {Q : Bool → AW → Prop} {E : List PanicEntry → AW → Prop} (r_0 : Value) (aw : AW) (H : S21_0 Q E r_0 aw) : CallP prog 21 [r_0] aw sh21 Q E :=
  callP_of func21 C21_is rfl (Nat.le_of_ble_eq_true rfl) (S21_0_ok Q E _ r_0 aw rfl H)
def C22_0 := bodyOf f22
theorem C22_is : f22.body = some C22_0 := by kernel_rfl
def C22_1 := cl C22_0
def R22_0 := regOps C22_1
def C22_2 := cr C22_0
def C22_3 := cl C22_2
def R22_1 := regOps C22_3
def C22_4 := cr C22_2
theorem R22_0_N : dstsOk 20 R22_0 = true := by decide +kernel
theorem R22_1_N : dstsOk 20 R22_1 = true := by decide +kernel
def S22_0 (Q : Bool → AW → Prop) (E : List PanicEntry → AW → Prop)  (r_0 : Value) (aw : AW) : Prop :=
  nilB (.pointer 84) r_0 (.pointer none) fun q1 =>
  cnd (!q1) (nck r_0 (fldA r_0 1 fun p6 =>
  ldB aw p6 fun x14 =>
  cnd (!x14) (nck r_0 (fldA r_0 0 fun p18 =>
  ldV aw p18 fun x26 =>
  slen x26 fun n28 =>
  Q (decide (n28 = 0)) aw)) (Q false aw))) (Q false aw)
theorem S22_0_ok (Q : Bool → AW → Prop) (E : List PanicEntry → AW → Prop)  (ρ : Env) (r_0 : Value) (aw : AW) (h0 : ρ 0 = r_0) (H : S22_0 Q E  r_0 aw) :
    AGo prog 20 [.code C22_0] ρ [] aw (RR prog f22 20 sh22 Q E) := by
  unfold S22_0 at H
  refine ago_seqE (rfl : C22_0 = .seq C22_1 C22_2) ?_
  refine ago_regE (rfl : C22_1 = .region 0 R22_0 false) (l := [0]) rfl ?_
  refine lj 2 R22_0_N rfl rfl rfl (opv_assign rfl rfl rfl) ?_
  refine aops_nil ?_
  refine ago_seqE (rfl : C22_2 = .seq C22_3 C22_4) ?_
  refine ago_regE (rfl : C22_3 = .region 1 R22_1 false) (l := [0, 1, 2, 3, 4, 5, 6, 7, 8, 9, 10, 11, 12, 13, 14, 15, 16, 17]) rfl ?_
  refine lj 3 R22_1_N rfl rfl rfl (opv_move rfl rfl h0) ?_
  obtain ⟨q1, hf2, hq3, H⟩ := H
  refine lj 4 R22_1_N rfl rfl rfl (ov_neNil rfl rfl underlying54 rfl hf2 hq3) ?_
  refine lj 5 R22_1_N rfl rfl rfl (opv_move rfl rfl rfl) ?_
  rcases Bool.eq_false_or_eq_true (!q1) with hb4 | hb4
  · replace H := cnd_t H hb4
    refine lj 6 R22_1_N rfl rfl ⟨_, rfl, .inl ⟨_, rfl, gq hb4 rfl⟩⟩ (opv_move rfl rfl h0) ?_
    obtain ⟨hp5, H⟩ := H
    refine lj 7 R22_1_N rfl rfl ⟨_, rfl, .inl ⟨_, rfl, gq hb4 rfl⟩⟩ (ov_nck rfl rfl rfl hp5) ?_
    obtain ⟨b7, i8, p6, hp9, hv10, H⟩ := H
    refine lj 8 R22_1_N rfl rfl ⟨_, rfl, .inl ⟨_, rfl, gq hb4 rfl⟩⟩ (ov_fldA rfl rfl underlying84 rfl sz4 (by decide) rfl hp9 rfl hv10) ?_
    obtain ⟨b11, i12, x14, hp13, hg15, H⟩ := H
    refine lj 9 R22_1_N rfl rfl ⟨_, rfl, .inl ⟨_, rfl, gq hb4 rfl⟩⟩ (ov_ldB rfl underlying4 rfl rfl hp13 hg15) ?_
    refine lj 10 R22_1_N rfl rfl ⟨_, rfl, .inl ⟨_, rfl, gq hb4 rfl⟩⟩ (opv_not rfl rfl rfl) ?_
    refine lj 11 R22_1_N rfl rfl rfl (ov_pickT rfl rfl rfl rfl rfl hb4 rfl) ?_
    refine lj 12 R22_1_N rfl rfl rfl (opv_move rfl rfl rfl) ?_
    rcases Bool.eq_false_or_eq_true (!x14) with hb16 | hb16
    · replace H := cnd_t H hb16
      refine lj 13 R22_1_N rfl rfl ⟨_, rfl, .inl ⟨_, rfl, gq hb16 rfl⟩⟩ (opv_move rfl rfl h0) ?_
      obtain ⟨hp17, H⟩ := H
      refine lj 14 R22_1_N rfl rfl ⟨_, rfl, .inl ⟨_, rfl, gq hb16 rfl⟩⟩ (ov_nck rfl rfl rfl hp17) ?_
      obtain ⟨b19, i20, p18, hp21, hv22, H⟩ := H
      refine lj 15 R22_1_N rfl rfl ⟨_, rfl, .inl ⟨_, rfl, gq hb16 rfl⟩⟩ (ov_fldA rfl rfl underlying84 rfl sz30 (by decide) rfl hp21 rfl hv22) ?_
      obtain ⟨b23, i24, x26, hp25, hg27, H⟩ := H
      refine lj 16 R22_1_N rfl rfl ⟨_, rfl, .inl ⟨_, rfl, gq hb16 rfl⟩⟩ (ov_ldV rfl underlying30 rfl rfl rfl hp25 hg27) ?_
      obtain ⟨q29, l30, c31, n28, hv32, hn33, H⟩ := H
      refine lj 17 R22_1_N rfl rfl ⟨_, rfl, .inl ⟨_, rfl, gq hb16 rfl⟩⟩ (ov_len rfl rfl rfl underlying30 rfl hv32 hn33) ?_
      refine lj 18 R22_1_N rfl rfl ⟨_, rfl, .inl ⟨_, rfl, gq hb16 rfl⟩⟩ (opv_eqI rfl rfl rfl rfl rfl) ?_
      refine lj 19 R22_1_N rfl rfl rfl (ov_pickT rfl rfl rfl rfl rfl hb16 rfl) ?_
      refine lj 2 R22_1_N rfl rfl rfl (opv_assign rfl rfl rfl) ?_
      refine aops_nil ?_
      exact ago_retE (rfl : C22_4 = .ret) (r := (decide (n28 = 0))) (ares_1 rfl (oneT rfl)) rfl H
    · replace H := cnd_f H hb16
      refine ls 13 R22_1_N rfl rfl ⟨_, rfl, .inl ⟨_, rfl, gq hb16 rfl⟩⟩ ?_
      refine ls 14 R22_1_N rfl rfl ⟨_, rfl, .inl ⟨_, rfl, gq hb16 rfl⟩⟩ ?_
      refine ls 15 R22_1_N rfl rfl ⟨_, rfl, .inl ⟨_, rfl, gq hb16 rfl⟩⟩ ?_
      refine ls 16 R22_1_N rfl rfl ⟨_, rfl, .inl ⟨_, rfl, gq hb16 rfl⟩⟩ ?_
      refine ls 17 R22_1_N rfl rfl ⟨_, rfl, .inl ⟨_, rfl, gq hb16 rfl⟩⟩ ?_
      refine ls 18 R22_1_N rfl rfl ⟨_, rfl, .inl ⟨_, rfl, gq hb16 rfl⟩⟩ ?_
      refine lj 19 R22_1_N rfl rfl rfl (ov_pickF rfl rfl rfl rfl rfl hb16 rfl) ?_
      refine lj 2 R22_1_N rfl rfl rfl (opv_assign rfl rfl rfl) ?_
      refine aops_nil ?_
      exact ago_retE (rfl : C22_4 = .ret) (r := false) (ares_1 rfl (oneT rfl)) rfl H
  · replace H := cnd_f H hb4
    refine ls 6 R22_1_N rfl rfl ⟨_, rfl, .inl ⟨_, rfl, gq hb4 rfl⟩⟩ ?_
    refine ls 7 R22_1_N rfl rfl ⟨_, rfl, .inl ⟨_, rfl, gq hb4 rfl⟩⟩ ?_
    refine ls 8 R22_1_N rfl rfl ⟨_, rfl, .inl ⟨_, rfl, gq hb4 rfl⟩⟩ ?_
    refine ls 9 R22_1_N rfl rfl ⟨_, rfl, .inl ⟨_, rfl, gq hb4 rfl⟩⟩ ?_
    refine ls 10 R22_1_N rfl rfl ⟨_, rfl, .inl ⟨_, rfl, gq hb4 rfl⟩⟩ ?_
    refine lj 11 R22_1_N rfl rfl rfl (ov_pickF rfl rfl rfl rfl rfl hb4 rfl) ?_
    refine lj 12 R22_1_N rfl rfl rfl (opv_move rfl rfl rfl) ?_
    refine ls 13 R22_1_N rfl rfl ⟨_, rfl, .inl ⟨_, rfl, gq rfl rfl⟩⟩ ?_
    refine ls 14 R22_1_N rfl rfl ⟨_, rfl, .inl ⟨_, rfl, gq rfl rfl⟩⟩ ?_
    refine ls 15 R22_1_N rfl rfl ⟨_, rfl, .inl ⟨_, rfl, gq rfl rfl⟩⟩ ?_
    refine ls 16 R22_1_N rfl rfl ⟨_, rfl, .inl ⟨_, rfl, gq rfl rfl⟩⟩ ?_
    refine ls 17 R22_1_N rfl rfl ⟨_, rfl, .inl ⟨_, rfl, gq rfl rfl⟩⟩ ?_
    refine ls 18 R22_1_N rfl rfl ⟨_, rfl, .inl ⟨_, rfl, gq rfl rfl⟩⟩ ?_
    refine lj 19 R22_1_N rfl rfl rfl (ov_pickF rfl rfl rfl rfl rfl rfl rfl) ?_
    refine lj 2 R22_1_N rfl rfl rfl (opv_assign rfl rfl rfl) ?_
    refine aops_nil ?_
    exact ago_retE (rfl : C22_4 = .ret) (r := false) (ares_1 rfl (oneT rfl)) rfl H
theorem F22_ok {Q : Bool → AW → Prop} {E : List PanicEntry → AW → Prop} (r_0 : Value) (aw : AW) (H : S22_0 Q E r_0 aw) : CallP prog 22 [r_0] aw sh22 Q E :=
  callP_of func22 C22_is rfl (Nat.le_of_ble_eq_true rfl) (S22_0_ok Q E _ r_0 aw rfl H)
def C17_0 := bodyOf f17
theorem C17_is : f17.body = some C17_0 := by kernel_rfl
def C17_1 := cl C17_0
def R17_0 := regOps C17_1
def C17_2 := cr C17_0
def C17_3 := cl C17_2
def R17_1 := regOps C17_3
def C17_4 := cr C17_2
theorem R17_0_N : dstsOk 6 R17_0 = true := by decide +kernel
theorem R17_1_N : dstsOk 6 R17_1 = true := by decide +kernel
def S17_0 (Q : Value → AW → Prop) (E : List PanicEntry → AW → Prop)  (p_0 : Value) (aw : AW) : Prop :=
  one p_0 = true ∧ alc aw [p_0, .bool false] 84 0 fun p2 aw3 =>
  Q p2 aw3
theorem S17_0_ok (Q : Value → AW → Prop) (E : List PanicEntry → AW → Prop)  (ρ : Env) (p_0 : Value) (aw : AW) (h0 : ρ 0 = p_0) (H : S17_0 Q E  p_0 aw) :
    AGo prog 6 [.code C17_0] ρ [] aw (RR prog f17 6 sh17 Q E) := by
  unfold S17_0 at H
  refine ago_seqE (rfl : C17_0 = .seq C17_1 C17_2) ?_
  refine ago_regE (rfl : C17_1 = .region 0 R17_0 false) (l := [0]) rfl ?_
  refine lj 2 R17_0_N rfl rfl rfl (opv_assign rfl rfl rfl) ?_
  refine aops_nil ?_
  refine ago_seqE (rfl : C17_2 = .seq C17_3 C17_4) ?_
  refine ago_regE (rfl : C17_3 = .region 1 R17_1 false) (l := [0, 1, 2, 3]) rfl ?_
  refine lj 3 R17_1_N rfl rfl rfl (opv_move rfl rfl h0) ?_
  obtain ⟨h11, H⟩ := H
  refine lj 4 R17_1_N rfl rfl rfl (ov_bld (r := [p_0, .bool false]) rfl rfl bo84 (mp_cons rfl rfl) (fillP (cells_one h11) rfl rfl rfl (fillN rfl))) ?_
  obtain ⟨p2, aw3, hp4, ha5, H⟩ := H
  refine lj 5 R17_1_N rfl rfl rfl (ov_box rfl rfl rfl rfl hp4 ha5) ?_
  refine lj 2 R17_1_N rfl rfl rfl (opv_assign rfl rfl rfl) ?_
  refine aops_nil ?_
  exact ago_retE (rfl : C17_4 = .ret) (r := p2) (ares_1 rfl (oneT rfl)) rfl H
theorem F17_ok {Q : Value → AW → Prop} {E : List PanicEntry → AW → Prop} (p_0 : Value) (aw : AW) (H : S17_0 Q E p_0 aw) : CallP prog 17 [p_0] aw sh17 Q E :=
  callP_of func17 C17_is rfl (Nat.le_of_ble_eq_true rfl) (S17_0_ok Q E _ p_0 aw rfl H)
def C33_0 := bodyOf f33
theorem C33_is : f33.body = some C33_0 := by kernel_rfl
def C33_1 := cl C33_0
def R33_0 := regOps C33_1
def C33_2 := cr C33_0
def C33_3 := cl C33_2
def C33_4 := cl C33_3
def R33_1 := regOps C33_4
def C33_5 := cr C33_3
def C33_6 := cl C33_5
def C33_7 := cl C33_6
def R33_2 := regOps C33_7
def C33_8 := cr C33_6
def C33_9 := cl C33_8
def R33_3 := regOps C33_9
def C33_10 := cr C33_8
def C33_11 := cr C33_5
def C33_12 := cr C33_2
def C33_13 := cl C33_12
def R33_4 := regOps C33_13
def C33_14 := cr C33_12
def C33_15 := cl C33_14
def C33_16 := cl C33_15
def R33_5 := regOps C33_16
def C33_17 := cr C33_15
def C33_18 := cl C33_17
def C33_19 := cl C33_18
def R33_6 := regOps C33_19
def C33_20 := cr C33_18
def C33_21 := cl C33_20
def R33_7 := regOps C33_21
def C33_22 := cr C33_20
def C33_23 := cr C33_17
def C33_24 := cr C33_14
def C33_25 := cl C33_24
def R33_8 := regOps C33_25
def C33_26 := cr C33_24
def C33_27 := cl C33_26
def C33_28 := cl C33_27
def R33_9 := regOps C33_28
def C33_29 := cr C33_27
def C33_30 := cl C33_29
def C33_31 := cl C33_30
def C33_32 := cl C33_31
def R33_10 := regOps C33_32
def C33_33 := cr C33_31
def C33_34 := cl C33_33
def C33_35 := cl C33_34
def C33_36 := cr C33_34
def C33_37 := cr C33_33
def C33_38 := cl C33_37
def C33_39 := cl C33_38
def C33_40 := cl C33_39
def R33_11 := regOps C33_40
def C33_41 := cr C33_39
def R33_12 := regOps C33_41
def C33_42 := cr C33_37
def R33_13 := regOps C33_42
def C33_43 := cr C33_26
def C33_44 := cl C33_43
def R33_14 := regOps C33_44
def C33_45 := cr C33_43
def C33_46 := cl C33_45
def R33_15 := regOps C33_46
def C33_47 := cr C33_45
theorem R33_0_N : dstsOk 88 R33_0 = true := by decide +kernel
theorem R33_1_N : dstsOk 88 R33_1 = true := by decide +kernel
theorem R33_2_N : dstsOk 88 R33_2 = true := by decide +kernel
theorem R33_3_N : dstsOk 88 R33_3 = true := by decide +kernel
theorem R33_4_N : dstsOk 88 R33_4 = true := by decide +kernel
theorem R33_5_N : dstsOk 88 R33_5 = true := by decide +kernel
theorem R33_6_N : dstsOk 88 R33_6 = true := by decide +kernel
theorem R33_7_N : dstsOk 88 R33_7 = true := by decide +kernel
theorem R33_8_N : dstsOk 88 R33_8 = true := by decide +kernel
theorem R33_9_N : dstsOk 88 R33_9 = true := by decide +kernel
theorem R33_10_N : dstsOk 88 R33_10 = true := by decide +kernel
theorem R33_11_N : dstsOk 88 R33_11 = true := by decide +kernel
theorem R33_12_N : dstsOk 88 R33_12 = true := by decide +kernel
theorem R33_13_N : dstsOk 88 R33_13 = true := by decide +kernel
theorem R33_14_N : dstsOk 88 R33_14 = true := by decide +kernel
theorem R33_15_N : dstsOk 88 R33_15 = true := by decide +kernel
def S33_2s (Q : Int → AW → Prop) (E : List PanicEntry → AW → Prop)  (nx2 : Value → Int → Int → Value → Int → Int → AW → Prop) (r_0 : Value) (k_3 : Int) (n_4 : Int) (t_65 : Value) (t_66 : Int) (t_67 : Int) (aw : AW) : Prop :=
  cnd (decide (t_67 < t_66)) (ixS t_65 t_67 1 fun p2 =>
  ldI .u8 aw p2 fun x14 =>
  nx2 r_0 k_3 (bitsOf .or .u64 (IntKind.u64.wrap (n_4 * 2 ^ (min (8 : Int).toNat IntKind.u64.bits))) (IntKind.u64.wrap x14)) t_65 t_66 (IntKind.i64.wrap (t_67 + 1)) aw) (nck r_0 (fldA r_0 0 fun p17 =>
  ldV aw p17 fun x25 =>
  cutV aw 1 x25 (IntKind.i64.wrap (1 + k_3)) (lenV x25) fun v27 =>
  nck r_0 (fldA r_0 0 fun p30 =>
  st aw p30 [v27] fun aw35 =>
  Q n_4 aw35)))
def S33_2 (Q : Int → AW → Prop) (E : List PanicEntry → AW → Prop)  : Nat → Value → Int → Int → Value → Int → Int → AW → Prop
  | 0 => fun _ _ _ _ _ _ _ => False
  | n + 1 => S33_2s Q E  (S33_2 Q E  n)
def S33_1 (Q : Int → AW → Prop) (E : List PanicEntry → AW → Prop)  (r_0 : Value) (t_22 : Bool) (aw : AW) : Prop :=
  cnd t_22 (CallP prog 35 [r_0] aw sh35 (fun r43 aw44 =>
  Q 0 aw44) E) (nck r_0 (fldA r_0 0 fun p46 =>
  ldV aw p46 fun x54 =>
  ixS x54 0 1 fun p56 =>
  ldI .u8 aw p56 fun x68 =>
  cnd (decide (8 < (IntKind.i64.wrap x68))) (CallP prog 35 [r_0] aw sh35 (fun r72 aw73 =>
  Q 0 aw73) E) (nck r_0 (fldA r_0 0 fun p75 =>
  ldV aw p75 fun x83 =>
  slen x83 fun n85 =>
  cnd (decide (n85 < (IntKind.i64.wrap (1 + (IntKind.i64.wrap x68))))) (CallP prog 35 [r_0] aw sh35 (fun r93 aw94 =>
  Q 0 aw94) E) (cnd (decide (0 < (IntKind.i64.wrap x68))) (nck r_0 (fldA r_0 0 fun p97 =>
  ldV aw p97 fun x105 =>
  ixS x105 1 1 fun p107 =>
  ldI .u8 aw p107 fun x119 =>
  cnd (decide (x119 = 0)) (CallP prog 35 [r_0] aw sh35 (fun r122 aw123 =>
  Q 0 aw123) E) (nck r_0 (fldA r_0 0 fun p125 =>
  ldV aw p125 fun x133 =>
  cutV aw 1 x133 1 (IntKind.i64.wrap (1 + (IntKind.i64.wrap x68))) fun v135 =>
  slen v135 fun n137 =>
  ∃ n, S33_2 Q E  n r_0 (IntKind.i64.wrap x68) 0 v135 n137 0 aw)))) (nck r_0 (fldA r_0 0 fun p145 =>
  ldV aw p145 fun x153 =>
  cutV aw 1 x153 1 (IntKind.i64.wrap (1 + (IntKind.i64.wrap x68))) fun v155 =>
  slen v155 fun n157 =>
  ∃ n, S33_2 Q E  n r_0 (IntKind.i64.wrap x68) 0 v155 n157 0 aw)))))))
def S33_0 (Q : Int → AW → Prop) (E : List PanicEntry → AW → Prop)  (r_0 : Value) (aw : AW) : Prop :=
  nilB (.pointer 84) r_0 (.pointer none) fun q163 =>
  cnd q163 (S33_1 Q E  r_0 true aw) (nck r_0 (fldA r_0 1 fun p168 =>
  ldB aw p168 fun x176 =>
  cnd x176 (S33_1 Q E  r_0 true aw) (nck r_0 (fldA r_0 0 fun p180 =>
  ldV aw p180 fun x188 =>
  slen x188 fun n190 =>
  S33_1 Q E  r_0 (decide (n190 = 0)) aw))))
theorem S33_2s_ok (Q : Int → AW → Prop) (E : List PanicEntry → AW → Prop)  (nx2 : Value → Int → Int → Value → Int → Int → AW → Prop) (L2 : ∀ (ρ : Env) (r_0 : Value) (k_3 : Int) (n_4 : Int) (t_65 : Value) (t_66 : Int) (t_67 : Int) (aw : AW) (h0 : ρ 0 = r_0) (h3 : ρ 3 = .int .i64 k_3) (h4 : ρ 4 = .int .u64 n_4) (h65 : ρ 65 = t_65) (h66 : ρ 66 = .int .i64 t_66) (h67 : ρ 67 = .int .i64 t_67), nx2 r_0 k_3 n_4 t_65 t_66 t_67 aw → AGo prog 88 [.code C33_31, .inLoop C33_31, .inBlock 0, .code C33_43] ρ [] aw (RR prog f33 88 sh33 Q E)) (ρ : Env) (r_0 : Value) (k_3 : Int) (n_4 : Int) (t_65 : Value) (t_66 : Int) (t_67 : Int) (aw : AW) (h0 : ρ 0 = r_0) (h3 : ρ 3 = .int .i64 k_3) (h4 : ρ 4 = .int .u64 n_4) (h65 : ρ 65 = t_65) (h66 : ρ 66 = .int .i64 t_66) (h67 : ρ 67 = .int .i64 t_67) (H : S33_2s Q E  nx2 r_0 k_3 n_4 t_65 t_66 t_67 aw) :
    AGo prog 88 [.code C33_31, .inLoop C33_31, .inBlock 0, .code C33_43] ρ [] aw (RR prog f33 88 sh33 Q E) := by
  unfold S33_2s at H
  refine ago_seqE (rfl : C33_31 = .seq C33_32 C33_33) ?_
  refine ago_regE (rfl : C33_32 = .region 10 R33_10 false) (l := [0]) rfl ?_
  refine lj 68 R33_10_N rfl rfl rfl (opv_lt rfl rfl rfl h67 h66) ?_
  refine aops_nil ?_
  refine ago_seqE (rfl : C33_33 = .seq C33_34 C33_37) ?_
  refine ago_condE  (rfl : C33_34 = .cond (.tmp 68) C33_35 C33_36) rfl rfl (fun hb1 => ?_) (fun hb1 => ?_)
  · replace H := cnd_t H hb1
    refine ago_skipE (rfl : C33_35 = .skip) ?_
    refine ago_seqE (rfl : C33_37 = .seq C33_38 C33_42) ?_
    refine ago_blockE (rfl : C33_38 = .block 1 C33_39) ?_
    refine ago_seqE (rfl : C33_39 = .seq C33_40 C33_41) ?_
    refine ago_regE (rfl : C33_40 = .region 11 R33_11 false) (l := [0, 1, 2]) rfl ?_
    obtain ⟨b3, i4, l5, c6, p2, hp7, h08, hj9, hv10, H⟩ := H
    refine lj 69 R33_11_N rfl rfl rfl (ov_ixS rfl rfl rfl underlying30 sz5 h65 h67 hp7 h08 hj9 hv10) ?_
    obtain ⟨b11, i12, x14, hp13, hg15, H⟩ := H
    refine lj 70 R33_11_N rfl rfl rfl (ov_ldI rfl underlying5 rfl rfl hp13 hg15) ?_
    refine lj 6 R33_11_N rfl rfl rfl (opv_assign rfl rfl rfl) ?_
    refine aops_nil ?_
    refine ago_regE (rfl : C33_41 = .region 12 R33_12 false) (l := [0, 1, 2, 3, 4, 5]) rfl ?_
    refine lj 71 R33_12_N rfl rfl rfl (opv_move rfl rfl h4) ?_
    refine lj 72 R33_12_N rfl rfl rfl (opv_shl rfl rfl rfl rfl rfl (by decide)) ?_
    refine lj 73 R33_12_N rfl rfl rfl (opv_move rfl rfl rfl) ?_
    refine lj 74 R33_12_N rfl rfl rfl (opv_conv rfl rfl underlying5 underlying39 rfl) ?_
    refine lj 75 R33_12_N rfl rfl rfl (opv_or rfl rfl rfl rfl rfl) ?_
    refine lj 4 R33_12_N rfl rfl rfl (opv_assign rfl rfl rfl) ?_
    refine aops_nil ?_
    refine ago_inBlock ?_
    refine ago_regE (rfl : C33_42 = .region 13 R33_13 false) (l := [0, 1]) rfl ?_
    refine lj 76 R33_13_N rfl rfl rfl (opv_add rfl rfl rfl h67 rfl) ?_
    refine lj 67 R33_13_N rfl rfl rfl (opv_move rfl rfl rfl) ?_
    refine aops_nil ?_
    refine ago_inLoop ?_
    exact L2 _ r_0 k_3 (bitsOf .or .u64 (IntKind.u64.wrap (n_4 * 2 ^ (min (8 : Int).toNat IntKind.u64.bits))) (IntKind.u64.wrap x14)) t_65 t_66 (IntKind.i64.wrap (t_67 + 1)) aw h0 h3 rfl h65 h66 rfl H
  replace H := cnd_f H hb1
  refine ago_exitE (rfl : C33_36 = .exit 0) rfl ?_
  refine ago_seqE (rfl : C33_43 = .seq C33_44 C33_45) ?_
  refine ago_regE (rfl : C33_44 = .region 14 R33_14 false) (l := [0, 1, 2, 3, 4, 5, 6, 7, 8, 9, 10]) rfl ?_
  refine lj 77 R33_14_N rfl rfl rfl (opv_move rfl rfl h0) ?_
  refine lj 78 R33_14_N rfl rfl rfl (opv_move rfl rfl h0) ?_
  obtain ⟨hp16, H⟩ := H
  refine lj 79 R33_14_N rfl rfl rfl (ov_nck rfl rfl rfl hp16) ?_
  obtain ⟨b18, i19, p17, hp20, hv21, H⟩ := H
  refine lj 80 R33_14_N rfl rfl rfl (ov_fldA rfl rfl underlying84 rfl sz30 (by decide) rfl hp20 rfl hv21) ?_
  obtain ⟨b22, i23, x25, hp24, hg26, H⟩ := H
  refine lj 81 R33_14_N rfl rfl rfl (ov_ldV rfl underlying30 rfl rfl rfl hp24 hg26) ?_
  refine lj 82 R33_14_N rfl rfl rfl (opv_move rfl rfl h3) ?_
  refine lj 83 R33_14_N rfl rfl rfl (opv_add rfl rfl rfl rfl rfl) ?_
  obtain ⟨v27, hq28, H⟩ := H
  refine lj 84 R33_14_N rfl rfl rfl (ov_cutV rfl rfl underlying30 sz5 rfl (bndS rfl) (bndN _ _ _) hq28) ?_
  obtain ⟨hp29, H⟩ := H
  refine lj 85 R33_14_N rfl rfl rfl (ov_nck rfl rfl rfl hp29) ?_
  obtain ⟨b31, i32, p30, hp33, hv34, H⟩ := H
  refine lj 86 R33_14_N rfl rfl rfl (ov_fldA rfl rfl underlying84 rfl sz30 (by decide) rfl hp33 rfl hv34) ?_
  obtain ⟨b36, i37, aw35, hp38, hw39, ho40, ha41, H⟩ := H
  refine lk (dt := none) R33_14_N rfl rfl rfl (ov_st rfl rfl rfl rfl rfl (cells_all ho40) sz30 hp38 hw39 ho40 ha41) ?_
  refine aops_nil ?_
  refine ago_seqE (rfl : C33_45 = .seq C33_46 C33_47) ?_
  refine ago_cut (fun ρ => ρ 4 = .int .u64 n_4 ∧ True) ⟨h4, trivial⟩ (fun ρ ⟨h4, _⟩ => ?_)
  refine ago_regE (rfl : C33_46 = .region 15 R33_15 false) (l := [0, 1]) rfl ?_
  refine lj 87 R33_15_N rfl rfl rfl (opv_move rfl rfl h4) ?_
  refine lj 2 R33_15_N rfl rfl rfl (opv_assign rfl rfl rfl) ?_
  refine aops_nil ?_
  exact ago_retE (rfl : C33_47 = .ret) (r := n_4) (ares_1 rfl (oneT rfl)) rfl H
theorem S33_2_ok (Q : Int → AW → Prop) (E : List PanicEntry → AW → Prop)  : ∀ (n : Nat) (ρ : Env) (r_0 : Value) (k_3 : Int) (n_4 : Int) (t_65 : Value) (t_66 : Int) (t_67 : Int) (aw : AW) (h0 : ρ 0 = r_0) (h3 : ρ 3 = .int .i64 k_3) (h4 : ρ 4 = .int .u64 n_4) (h65 : ρ 65 = t_65) (h66 : ρ 66 = .int .i64 t_66) (h67 : ρ 67 = .int .i64 t_67), S33_2 Q E  n r_0 k_3 n_4 t_65 t_66 t_67 aw →
    AGo prog 88 [.code C33_31, .inLoop C33_31, .inBlock 0, .code C33_43] ρ [] aw (RR prog f33 88 sh33 Q E)
  | 0, _, _, _, _, _, _, _, _, _, _, _, _, _, _ => fun H => H.elim
  | n + 1, ρ, r_0, k_3, n_4, t_65, t_66, t_67, aw, h0, h3, h4, h65, h66, h67 => fun H => S33_2s_ok Q E  _ (S33_2_ok Q E  n) ρ r_0 k_3 n_4 t_65 t_66 t_67 aw h0 h3 h4 h65 h66 h67 H
theorem S33_1_ok (Q : Int → AW → Prop) (E : List PanicEntry → AW → Prop)  (ρ : Env) (r_0 : Value) (t_22 : Bool) (aw : AW) (h0 : ρ 0 = r_0) (h22 : ρ 22 = .bool t_22) (H : S33_1 Q E  r_0 t_22 aw) :
    AGo prog 88 [.code C33_5, .code C33_12] ρ [] aw (RR prog f33 88 sh33 Q E) := by
  unfold S33_1 at H
  refine ago_condE  (rfl : C33_5 = .cond (.tmp 22) C33_6 C33_11) rfl h22 (fun hb42 => ?_) (fun hb42 => ?_)
  · replace H := cnd_t H hb42
    refine ago_seqE (rfl : C33_6 = .seq C33_7 C33_8) ?_
    refine ago_regE (rfl : C33_7 = .region 2 R33_2 false) (l := [0, 1]) rfl ?_
    refine lj 23 R33_2_N rfl rfl rfl (opv_move rfl rfl h0) ?_
    refine lc 24 R33_2_N rfl rfl rfl (opc_of rfl rfl is35 (ma_cons rfl rfl)) H (fun _ _ h => ⟨rfl, h⟩) fun r43 aw44 H => ?_
    refine aops_nil ?_
    refine ago_seqE (rfl : C33_8 = .seq C33_9 C33_10) ?_
    refine ago_regE (rfl : C33_9 = .region 3 R33_3 false) (l := [0]) rfl ?_
    refine lj 2 R33_3_N rfl rfl rfl (opv_assign rfl rfl rfl) ?_
    refine aops_nil ?_
    exact ago_retE (rfl : C33_10 = .ret) (r := 0) (ares_1 rfl (oneT rfl)) rfl H
  replace H := cnd_f H hb42
  refine ago_skipE (rfl : C33_11 = .skip) ?_
  refine ago_seqE (rfl : C33_12 = .seq C33_13 C33_14) ?_
  refine ago_regE (rfl : C33_13 = .region 4 R33_4 false) (l := [0, 1, 2, 3, 4, 5, 6, 7]) rfl ?_
  refine lj 25 R33_4_N rfl rfl rfl (opv_move rfl rfl h0) ?_
  obtain ⟨hp45, H⟩ := H
  refine lj 26 R33_4_N rfl rfl rfl (ov_nck rfl rfl rfl hp45) ?_
  obtain ⟨b47, i48, p46, hp49, hv50, H⟩ := H
  refine lj 27 R33_4_N rfl rfl rfl (ov_fldA rfl rfl underlying84 rfl sz30 (by decide) rfl hp49 rfl hv50) ?_
  obtain ⟨b51, i52, x54, hp53, hg55, H⟩ := H
  refine lj 28 R33_4_N rfl rfl rfl (ov_ldV rfl underlying30 rfl rfl rfl hp53 hg55) ?_
  obtain ⟨b57, i58, l59, c60, p56, hp61, h062, hj63, hv64, H⟩ := H
  refine lj 29 R33_4_N rfl rfl rfl (ov_ixS rfl rfl rfl underlying30 sz5 rfl rfl hp61 h062 hj63 hv64) ?_
  obtain ⟨b65, i66, x68, hp67, hg69, H⟩ := H
  refine lj 30 R33_4_N rfl rfl rfl (ov_ldI rfl underlying5 rfl rfl hp67 hg69) ?_
  refine lj 31 R33_4_N rfl rfl rfl (opv_conv rfl rfl underlying5 underlying3 rfl) ?_
  refine lj 3 R33_4_N rfl rfl rfl (opv_assign rfl rfl rfl) ?_
  refine aops_nil ?_
  refine ago_seqE (rfl : C33_14 = .seq C33_15 C33_24) ?_
  refine ago_seqE (rfl : C33_15 = .seq C33_16 C33_17) ?_
  refine ago_regE (rfl : C33_16 = .region 5 R33_5 false) (l := [0, 1, 2, 3, 4, 5, 6, 7, 8, 9, 10, 11, 12, 13, 14, 15, 16, 17, 18, 19, 20, 21, 22, 23, 24]) rfl ?_
  refine lj 32 R33_5_N rfl rfl rfl (opv_move rfl rfl rfl) ?_
  refine lj 33 R33_5_N rfl rfl rfl (opv_gt rfl rfl rfl rfl rfl) ?_
  refine lj 34 R33_5_N rfl rfl rfl (opv_move rfl rfl rfl) ?_
  rcases Bool.eq_false_or_eq_true (decide (8 < (IntKind.i64.wrap x68))) with hb70 | hb70
  · replace H := cnd_t H hb70
    refine ls 35 R33_5_N rfl rfl ⟨_, rfl, .inl ⟨_, rfl, gq hb70 rfl⟩⟩ ?_
    refine ls 36 R33_5_N rfl rfl ⟨_, rfl, .inl ⟨_, rfl, gq hb70 rfl⟩⟩ ?_
    refine ls 37 R33_5_N rfl rfl ⟨_, rfl, .inl ⟨_, rfl, gq hb70 rfl⟩⟩ ?_
    refine ls 38 R33_5_N rfl rfl ⟨_, rfl, .inl ⟨_, rfl, gq hb70 rfl⟩⟩ ?_
    refine ls 39 R33_5_N rfl rfl ⟨_, rfl, .inl ⟨_, rfl, gq hb70 rfl⟩⟩ ?_
    refine ls 40 R33_5_N rfl rfl ⟨_, rfl, .inl ⟨_, rfl, gq hb70 rfl⟩⟩ ?_
    refine ls 41 R33_5_N rfl rfl ⟨_, rfl, .inl ⟨_, rfl, gq hb70 rfl⟩⟩ ?_
    refine ls 42 R33_5_N rfl rfl ⟨_, rfl, .inl ⟨_, rfl, gq hb70 rfl⟩⟩ ?_
    refine lj 43 R33_5_N rfl rfl rfl (ov_pickT rfl rfl rfl rfl rfl hb70 rfl) ?_
    refine lj 44 R33_5_N rfl rfl rfl (opv_move rfl rfl rfl) ?_
    refine ls 45 R33_5_N rfl rfl ⟨_, rfl, .inl ⟨_, rfl, gq rfl rfl⟩⟩ ?_
    refine ls 46 R33_5_N rfl rfl ⟨_, rfl, .inl ⟨_, rfl, gq rfl rfl⟩⟩ ?_
    refine ls 47 R33_5_N rfl rfl ⟨_, rfl, .inl ⟨_, rfl, gq rfl rfl⟩⟩ ?_
    refine ls 48 R33_5_N rfl rfl ⟨_, rfl, .inr ⟨rfl, rfl⟩⟩ ?_
    refine ls 49 R33_5_N rfl rfl ⟨_, rfl, .inr ⟨rfl, rfl⟩⟩ ?_
    refine ls 50 R33_5_N rfl rfl ⟨_, rfl, .inr ⟨rfl, rfl⟩⟩ ?_
    refine ls 51 R33_5_N rfl rfl ⟨_, rfl, .inr ⟨rfl, rfl⟩⟩ ?_
    refine ls 52 R33_5_N rfl rfl ⟨_, rfl, .inr ⟨rfl, rfl⟩⟩ ?_
    refine ls 53 R33_5_N rfl rfl ⟨_, rfl, .inr ⟨rfl, rfl⟩⟩ ?_
    refine ls 54 R33_5_N rfl rfl ⟨_, rfl, .inr ⟨rfl, rfl⟩⟩ ?_
    refine ls 55 R33_5_N rfl rfl ⟨_, rfl, .inl ⟨_, rfl, gq rfl rfl⟩⟩ ?_
    refine lj 56 R33_5_N rfl rfl rfl (ov_pickT rfl rfl rfl rfl rfl rfl rfl) ?_
    refine aops_nil ?_
    refine ago_condE  (rfl : C33_17 = .cond (.tmp 56) C33_18 C33_23) rfl rfl (fun h => ?_) (fun h => tf h)
    refine ago_seqE (rfl : C33_18 = .seq C33_19 C33_20) ?_
    refine ago_cut (fun ρ => ρ 0 = r_0 ∧ True) ⟨h0, trivial⟩ (fun ρ ⟨h0, _⟩ => ?_)
    refine ago_regE (rfl : C33_19 = .region 6 R33_6 false) (l := [0, 1]) rfl ?_
    refine lj 57 R33_6_N rfl rfl rfl (opv_move rfl rfl h0) ?_
    refine lc 58 R33_6_N rfl rfl rfl (opc_of rfl rfl is35 (ma_cons rfl rfl)) H (fun _ _ h => ⟨rfl, h⟩) fun r72 aw73 H => ?_
    refine aops_nil ?_
    refine ago_seqE (rfl : C33_20 = .seq C33_21 C33_22) ?_
    refine ago_regE (rfl : C33_21 = .region 7 R33_7 false) (l := [0]) rfl ?_
    refine lj 2 R33_7_N rfl rfl rfl (opv_assign rfl rfl rfl) ?_
    refine aops_nil ?_
    exact ago_retE (rfl : C33_22 = .ret) (r := 0) (ares_1 rfl (oneT rfl)) rfl H
  · replace H := cnd_f H hb70
    refine lj 35 R33_5_N rfl rfl ⟨_, rfl, .inl ⟨_, rfl, gq hb70 rfl⟩⟩ (opv_move rfl rfl h0) ?_
    obtain ⟨hp74, H⟩ := H
    refine lj 36 R33_5_N rfl rfl ⟨_, rfl, .inl ⟨_, rfl, gq hb70 rfl⟩⟩ (ov_nck rfl rfl rfl hp74) ?_
    obtain ⟨b76, i77, p75, hp78, hv79, H⟩ := H
    refine lj 37 R33_5_N rfl rfl ⟨_, rfl, .inl ⟨_, rfl, gq hb70 rfl⟩⟩ (ov_fldA rfl rfl underlying84 rfl sz30 (by decide) rfl hp78 rfl hv79) ?_
    obtain ⟨b80, i81, x83, hp82, hg84, H⟩ := H
    refine lj 38 R33_5_N rfl rfl ⟨_, rfl, .inl ⟨_, rfl, gq hb70 rfl⟩⟩ (ov_ldV rfl underlying30 rfl rfl rfl hp82 hg84) ?_
    obtain ⟨q86, l87, c88, n85, hv89, hn90, H⟩ := H
    refine lj 39 R33_5_N rfl rfl ⟨_, rfl, .inl ⟨_, rfl, gq hb70 rfl⟩⟩ (ov_len rfl rfl rfl underlying30 rfl hv89 hn90) ?_
    refine lj 40 R33_5_N rfl rfl ⟨_, rfl, .inl ⟨_, rfl, gq hb70 rfl⟩⟩ (opv_move rfl rfl rfl) ?_
    refine lj 41 R33_5_N rfl rfl ⟨_, rfl, .inl ⟨_, rfl, gq hb70 rfl⟩⟩ (opv_add rfl rfl rfl rfl rfl) ?_
    refine lj 42 R33_5_N rfl rfl ⟨_, rfl, .inl ⟨_, rfl, gq hb70 rfl⟩⟩ (opv_lt rfl rfl rfl rfl rfl) ?_
    refine lj 43 R33_5_N rfl rfl rfl (ov_pickF rfl rfl rfl rfl rfl hb70 rfl) ?_
    refine lj 44 R33_5_N rfl rfl rfl (opv_move rfl rfl rfl) ?_
    rcases Bool.eq_false_or_eq_true (decide (n85 < (IntKind.i64.wrap (1 + (IntKind.i64.wrap x68))))) with hb91 | hb91
    · replace H := cnd_t H hb91
      refine ls 45 R33_5_N rfl rfl ⟨_, rfl, .inl ⟨_, rfl, gq hb91 rfl⟩⟩ ?_
      refine ls 46 R33_5_N rfl rfl ⟨_, rfl, .inl ⟨_, rfl, gq hb91 rfl⟩⟩ ?_
      refine ls 47 R33_5_N rfl rfl ⟨_, rfl, .inl ⟨_, rfl, gq hb91 rfl⟩⟩ ?_
      refine ls 48 R33_5_N rfl rfl ⟨_, rfl, .inr ⟨rfl, rfl⟩⟩ ?_
      refine ls 49 R33_5_N rfl rfl ⟨_, rfl, .inr ⟨rfl, rfl⟩⟩ ?_
      refine ls 50 R33_5_N rfl rfl ⟨_, rfl, .inr ⟨rfl, rfl⟩⟩ ?_
      refine ls 51 R33_5_N rfl rfl ⟨_, rfl, .inr ⟨rfl, rfl⟩⟩ ?_
      refine ls 52 R33_5_N rfl rfl ⟨_, rfl, .inr ⟨rfl, rfl⟩⟩ ?_
      refine ls 53 R33_5_N rfl rfl ⟨_, rfl, .inr ⟨rfl, rfl⟩⟩ ?_
      refine ls 54 R33_5_N rfl rfl ⟨_, rfl, .inr ⟨rfl, rfl⟩⟩ ?_
      refine ls 55 R33_5_N rfl rfl ⟨_, rfl, .inl ⟨_, rfl, gq hb91 rfl⟩⟩ ?_
      refine lj 56 R33_5_N rfl rfl rfl (ov_pickT rfl rfl rfl rfl rfl hb91 rfl) ?_
      refine aops_nil ?_
      refine ago_condE  (rfl : C33_17 = .cond (.tmp 56) C33_18 C33_23) rfl rfl (fun h => ?_) (fun h => tf h)
      refine ago_seqE (rfl : C33_18 = .seq C33_19 C33_20) ?_
      refine ago_cut (fun ρ => ρ 0 = r_0 ∧ True) ⟨h0, trivial⟩ (fun ρ ⟨h0, _⟩ => ?_)
      refine ago_regE (rfl : C33_19 = .region 6 R33_6 false) (l := [0, 1]) rfl ?_
      refine lj 57 R33_6_N rfl rfl rfl (opv_move rfl rfl h0) ?_
      refine lc 58 R33_6_N rfl rfl rfl (opc_of rfl rfl is35 (ma_cons rfl rfl)) H (fun _ _ h => ⟨rfl, h⟩) fun r93 aw94 H => ?_
      refine aops_nil ?_
      refine ago_seqE (rfl : C33_20 = .seq C33_21 C33_22) ?_
      refine ago_regE (rfl : C33_21 = .region 7 R33_7 false) (l := [0]) rfl ?_
      refine lj 2 R33_7_N rfl rfl rfl (opv_assign rfl rfl rfl) ?_
      refine aops_nil ?_
      exact ago_retE (rfl : C33_22 = .ret) (r := 0) (ares_1 rfl (oneT rfl)) rfl H
    · replace H := cnd_f H hb91
      refine lj 45 R33_5_N rfl rfl ⟨_, rfl, .inl ⟨_, rfl, gq hb91 rfl⟩⟩ (opv_move rfl rfl rfl) ?_
      refine lj 46 R33_5_N rfl rfl ⟨_, rfl, .inl ⟨_, rfl, gq hb91 rfl⟩⟩ (opv_gt rfl rfl rfl rfl rfl) ?_
      refine lj 47 R33_5_N rfl rfl ⟨_, rfl, .inl ⟨_, rfl, gq hb91 rfl⟩⟩ (opv_move rfl rfl rfl) ?_
      rcases Bool.eq_false_or_eq_true (decide (0 < (IntKind.i64.wrap x68))) with hb95 | hb95
      · replace H := cnd_t H hb95
        refine lj 48 R33_5_N rfl rfl ⟨_, rfl, .inl ⟨_, rfl, gq hb95 rfl⟩⟩ (opv_move rfl rfl h0) ?_
        obtain ⟨hp96, H⟩ := H
        refine lj 49 R33_5_N rfl rfl ⟨_, rfl, .inl ⟨_, rfl, gq hb95 rfl⟩⟩ (ov_nck rfl rfl rfl hp96) ?_
        obtain ⟨b98, i99, p97, hp100, hv101, H⟩ := H
        refine lj 50 R33_5_N rfl rfl ⟨_, rfl, .inl ⟨_, rfl, gq hb95 rfl⟩⟩ (ov_fldA rfl rfl underlying84 rfl sz30 (by decide) rfl hp100 rfl hv101) ?_
        obtain ⟨b102, i103, x105, hp104, hg106, H⟩ := H
        refine lj 51 R33_5_N rfl rfl ⟨_, rfl, .inl ⟨_, rfl, gq hb95 rfl⟩⟩ (ov_ldV rfl underlying30 rfl rfl rfl hp104 hg106) ?_
        obtain ⟨b108, i109, l110, c111, p107, hp112, h0113, hj114, hv115, H⟩ := H
        refine lj 52 R33_5_N rfl rfl ⟨_, rfl, .inl ⟨_, rfl, gq hb95 rfl⟩⟩ (ov_ixS rfl rfl rfl underlying30 sz5 rfl rfl hp112 h0113 hj114 hv115) ?_
        obtain ⟨b116, i117, x119, hp118, hg120, H⟩ := H
        refine lj 53 R33_5_N rfl rfl ⟨_, rfl, .inl ⟨_, rfl, gq hb95 rfl⟩⟩ (ov_ldI rfl underlying5 rfl rfl hp118 hg120) ?_
        refine lj 54 R33_5_N rfl rfl ⟨_, rfl, .inl ⟨_, rfl, gq hb95 rfl⟩⟩ (opv_eqI rfl rfl rfl rfl rfl) ?_
        refine lj 55 R33_5_N rfl rfl ⟨_, rfl, .inl ⟨_, rfl, gq hb91 rfl⟩⟩ (ov_pickT rfl rfl rfl rfl rfl hb95 rfl) ?_
        refine lj 56 R33_5_N rfl rfl rfl (ov_pickF rfl rfl rfl rfl rfl hb91 rfl) ?_
        refine aops_nil ?_
        refine ago_condE  (rfl : C33_17 = .cond (.tmp 56) C33_18 C33_23) rfl rfl (fun hb121 => ?_) (fun hb121 => ?_)
        · replace H := cnd_t H hb121
          refine ago_seqE (rfl : C33_18 = .seq C33_19 C33_20) ?_
          refine ago_cut (fun ρ => ρ 0 = r_0 ∧ True) ⟨h0, trivial⟩ (fun ρ ⟨h0, _⟩ => ?_)
          refine ago_regE (rfl : C33_19 = .region 6 R33_6 false) (l := [0, 1]) rfl ?_
          refine lj 57 R33_6_N rfl rfl rfl (opv_move rfl rfl h0) ?_
          refine lc 58 R33_6_N rfl rfl rfl (opc_of rfl rfl is35 (ma_cons rfl rfl)) H (fun _ _ h => ⟨rfl, h⟩) fun r122 aw123 H => ?_
          refine aops_nil ?_
          refine ago_seqE (rfl : C33_20 = .seq C33_21 C33_22) ?_
          refine ago_regE (rfl : C33_21 = .region 7 R33_7 false) (l := [0]) rfl ?_
          refine lj 2 R33_7_N rfl rfl rfl (opv_assign rfl rfl rfl) ?_
          refine aops_nil ?_
          exact ago_retE (rfl : C33_22 = .ret) (r := 0) (ares_1 rfl (oneT rfl)) rfl H
        replace H := cnd_f H hb121
        refine ago_skipE (rfl : C33_23 = .skip) ?_
        refine ago_seqE (rfl : C33_24 = .seq C33_25 C33_26) ?_
        refine ago_cut (fun ρ => ρ 0 = r_0 ∧ ρ 3 = .int .i64 (IntKind.i64.wrap x68) ∧ True) ⟨h0, rfl, trivial⟩ (fun ρ ⟨h0, h3, _⟩ => ?_)
        refine ago_regE (rfl : C33_25 = .region 8 R33_8 false) (l := [0]) rfl ?_
        refine lj 4 R33_8_N rfl rfl rfl (opv_assign rfl rfl rfl) ?_
        refine aops_nil ?_
        refine ago_seqE (rfl : C33_26 = .seq C33_27 C33_43) ?_
        refine ago_seqE (rfl : C33_27 = .seq C33_28 C33_29) ?_
        refine ago_regE (rfl : C33_28 = .region 9 R33_9 false) (l := [0, 1, 2, 3, 4, 5, 6, 7, 8]) rfl ?_
        refine lj 59 R33_9_N rfl rfl rfl (opv_move rfl rfl h0) ?_
        obtain ⟨hp124, H⟩ := H
        refine lj 60 R33_9_N rfl rfl rfl (ov_nck rfl rfl rfl hp124) ?_
        obtain ⟨b126, i127, p125, hp128, hv129, H⟩ := H
        refine lj 61 R33_9_N rfl rfl rfl (ov_fldA rfl rfl underlying84 rfl sz30 (by decide) rfl hp128 rfl hv129) ?_
        obtain ⟨b130, i131, x133, hp132, hg134, H⟩ := H
        refine lj 62 R33_9_N rfl rfl rfl (ov_ldV rfl underlying30 rfl rfl rfl hp132 hg134) ?_
        refine lj 63 R33_9_N rfl rfl rfl (opv_move rfl rfl h3) ?_
        refine lj 64 R33_9_N rfl rfl rfl (opv_add rfl rfl rfl rfl rfl) ?_
        obtain ⟨v135, hq136, H⟩ := H
        refine lj 65 R33_9_N rfl rfl rfl (ov_cutV rfl rfl underlying30 sz5 rfl (bndS rfl) (bndS rfl) hq136) ?_
        obtain ⟨q138, l139, c140, n137, hv141, hn142, H⟩ := H
        refine lj 66 R33_9_N rfl rfl rfl (ov_len rfl rfl rfl underlying30 rfl hv141 hn142) ?_
        refine lj 67 R33_9_N rfl rfl rfl (opv_move rfl rfl rfl) ?_
        refine aops_nil ?_
        refine ago_blockE (rfl : C33_29 = .block 0 C33_30) ?_
        refine ago_loopE (rfl : C33_30 = .loop C33_31) ?_
        obtain ⟨n, H⟩ := H
        exact S33_2_ok Q E  n _ r_0 (IntKind.i64.wrap x68) 0 v135 n137 0 aw h0 h3 rfl rfl rfl rfl H
      · replace H := cnd_f H hb95
        refine ls 48 R33_5_N rfl rfl ⟨_, rfl, .inl ⟨_, rfl, gq hb95 rfl⟩⟩ ?_
        refine ls 49 R33_5_N rfl rfl ⟨_, rfl, .inl ⟨_, rfl, gq hb95 rfl⟩⟩ ?_
        refine ls 50 R33_5_N rfl rfl ⟨_, rfl, .inl ⟨_, rfl, gq hb95 rfl⟩⟩ ?_
        refine ls 51 R33_5_N rfl rfl ⟨_, rfl, .inl ⟨_, rfl, gq hb95 rfl⟩⟩ ?_
        refine ls 52 R33_5_N rfl rfl ⟨_, rfl, .inl ⟨_, rfl, gq hb95 rfl⟩⟩ ?_
        refine ls 53 R33_5_N rfl rfl ⟨_, rfl, .inl ⟨_, rfl, gq hb95 rfl⟩⟩ ?_
        refine ls 54 R33_5_N rfl rfl ⟨_, rfl, .inl ⟨_, rfl, gq hb95 rfl⟩⟩ ?_
        refine lj 55 R33_5_N rfl rfl ⟨_, rfl, .inl ⟨_, rfl, gq hb91 rfl⟩⟩ (ov_pickF rfl rfl rfl rfl rfl hb95 rfl) ?_
        refine lj 56 R33_5_N rfl rfl rfl (ov_pickF rfl rfl rfl rfl rfl hb91 rfl) ?_
        refine aops_nil ?_
        refine ago_condE  (rfl : C33_17 = .cond (.tmp 56) C33_18 C33_23) rfl rfl (fun h => ft h) (fun h => ?_)
        refine ago_skipE (rfl : C33_23 = .skip) ?_
        refine ago_seqE (rfl : C33_24 = .seq C33_25 C33_26) ?_
        refine ago_cut (fun ρ => ρ 0 = r_0 ∧ ρ 3 = .int .i64 (IntKind.i64.wrap x68) ∧ True) ⟨h0, rfl, trivial⟩ (fun ρ ⟨h0, h3, _⟩ => ?_)
        refine ago_regE (rfl : C33_25 = .region 8 R33_8 false) (l := [0]) rfl ?_
        refine lj 4 R33_8_N rfl rfl rfl (opv_assign rfl rfl rfl) ?_
        refine aops_nil ?_
        refine ago_seqE (rfl : C33_26 = .seq C33_27 C33_43) ?_
        refine ago_seqE (rfl : C33_27 = .seq C33_28 C33_29) ?_
        refine ago_regE (rfl : C33_28 = .region 9 R33_9 false) (l := [0, 1, 2, 3, 4, 5, 6, 7, 8]) rfl ?_
        refine lj 59 R33_9_N rfl rfl rfl (opv_move rfl rfl h0) ?_
        obtain ⟨hp144, H⟩ := H
        refine lj 60 R33_9_N rfl rfl rfl (ov_nck rfl rfl rfl hp144) ?_
        obtain ⟨b146, i147, p145, hp148, hv149, H⟩ := H
        refine lj 61 R33_9_N rfl rfl rfl (ov_fldA rfl rfl underlying84 rfl sz30 (by decide) rfl hp148 rfl hv149) ?_
        obtain ⟨b150, i151, x153, hp152, hg154, H⟩ := H
        refine lj 62 R33_9_N rfl rfl rfl (ov_ldV rfl underlying30 rfl rfl rfl hp152 hg154) ?_
        refine lj 63 R33_9_N rfl rfl rfl (opv_move rfl rfl h3) ?_
        refine lj 64 R33_9_N rfl rfl rfl (opv_add rfl rfl rfl rfl rfl) ?_
        obtain ⟨v155, hq156, H⟩ := H
        refine lj 65 R33_9_N rfl rfl rfl (ov_cutV rfl rfl underlying30 sz5 rfl (bndS rfl) (bndS rfl) hq156) ?_
        obtain ⟨q158, l159, c160, n157, hv161, hn162, H⟩ := H
        refine lj 66 R33_9_N rfl rfl rfl (ov_len rfl rfl rfl underlying30 rfl hv161 hn162) ?_
        refine lj 67 R33_9_N rfl rfl rfl (opv_move rfl rfl rfl) ?_
        refine aops_nil ?_
        refine ago_blockE (rfl : C33_29 = .block 0 C33_30) ?_
        refine ago_loopE (rfl : C33_30 = .loop C33_31) ?_
        obtain ⟨n, H⟩ := H
        exact S33_2_ok Q E  n _ r_0 (IntKind.i64.wrap x68) 0 v155 n157 0 aw h0 h3 rfl rfl rfl rfl H
theorem S33_0_ok (Q : Int → AW → Prop) (E : List PanicEntry → AW → Prop)  (ρ : Env) (r_0 : Value) (aw : AW) (h0 : ρ 0 = r_0) (H : S33_0 Q E  r_0 aw) :
    AGo prog 88 [.code C33_0] ρ [] aw (RR prog f33 88 sh33 Q E) := by
  unfold S33_0 at H
  refine ago_seqE (rfl : C33_0 = .seq C33_1 C33_2) ?_
  refine ago_regE (rfl : C33_1 = .region 0 R33_0 false) (l := [0]) rfl ?_
  refine lj 2 R33_0_N rfl rfl rfl (opv_assign rfl rfl rfl) ?_
  refine aops_nil ?_
  refine ago_seqE (rfl : C33_2 = .seq C33_3 C33_12) ?_
  refine ago_seqE (rfl : C33_3 = .seq C33_4 C33_5) ?_
  refine ago_regE (rfl : C33_4 = .region 1 R33_1 false) (l := [0, 1, 2, 3, 4, 5, 6, 7, 8, 9, 10, 11, 12, 13, 14, 15]) rfl ?_
  refine lj 7 R33_1_N rfl rfl rfl (opv_move rfl rfl h0) ?_
  obtain ⟨q163, hf164, hq165, H⟩ := H
  refine lj 8 R33_1_N rfl rfl rfl (ov_eqNil rfl rfl underlying54 rfl hf164 hq165) ?_
  refine lj 9 R33_1_N rfl rfl rfl (opv_move rfl rfl rfl) ?_
  rcases Bool.eq_false_or_eq_true q163 with hb166 | hb166
  · replace H := cnd_t H hb166
    refine ls 10 R33_1_N rfl rfl ⟨_, rfl, .inl ⟨_, rfl, gq hb166 rfl⟩⟩ ?_
    refine ls 11 R33_1_N rfl rfl ⟨_, rfl, .inl ⟨_, rfl, gq hb166 rfl⟩⟩ ?_
    refine ls 12 R33_1_N rfl rfl ⟨_, rfl, .inl ⟨_, rfl, gq hb166 rfl⟩⟩ ?_
    refine ls 13 R33_1_N rfl rfl ⟨_, rfl, .inl ⟨_, rfl, gq hb166 rfl⟩⟩ ?_
    refine lj 14 R33_1_N rfl rfl rfl (ov_pickT rfl rfl rfl rfl rfl hb166 rfl) ?_
    refine lj 15 R33_1_N rfl rfl rfl (opv_move rfl rfl rfl) ?_
    refine ls 16 R33_1_N rfl rfl ⟨_, rfl, .inl ⟨_, rfl, gq rfl rfl⟩⟩ ?_
    refine ls 17 R33_1_N rfl rfl ⟨_, rfl, .inl ⟨_, rfl, gq rfl rfl⟩⟩ ?_
    refine ls 18 R33_1_N rfl rfl ⟨_, rfl, .inl ⟨_, rfl, gq rfl rfl⟩⟩ ?_
    refine ls 19 R33_1_N rfl rfl ⟨_, rfl, .inl ⟨_, rfl, gq rfl rfl⟩⟩ ?_
    refine ls 20 R33_1_N rfl rfl ⟨_, rfl, .inl ⟨_, rfl, gq rfl rfl⟩⟩ ?_
    refine ls 21 R33_1_N rfl rfl ⟨_, rfl, .inl ⟨_, rfl, gq rfl rfl⟩⟩ ?_
    refine lj 22 R33_1_N rfl rfl rfl (ov_pickT rfl rfl rfl rfl rfl rfl rfl) ?_
    refine aops_nil ?_
    exact S33_1_ok Q E  _ r_0 true aw h0 rfl H
  · replace H := cnd_f H hb166
    refine lj 10 R33_1_N rfl rfl ⟨_, rfl, .inl ⟨_, rfl, gq hb166 rfl⟩⟩ (opv_move rfl rfl h0) ?_
    obtain ⟨hp167, H⟩ := H
    refine lj 11 R33_1_N rfl rfl ⟨_, rfl, .inl ⟨_, rfl, gq hb166 rfl⟩⟩ (ov_nck rfl rfl rfl hp167) ?_
    obtain ⟨b169, i170, p168, hp171, hv172, H⟩ := H
    refine lj 12 R33_1_N rfl rfl ⟨_, rfl, .inl ⟨_, rfl, gq hb166 rfl⟩⟩ (ov_fldA rfl rfl underlying84 rfl sz4 (by decide) rfl hp171 rfl hv172) ?_
    obtain ⟨b173, i174, x176, hp175, hg177, H⟩ := H
    refine lj 13 R33_1_N rfl rfl ⟨_, rfl, .inl ⟨_, rfl, gq hb166 rfl⟩⟩ (ov_ldB rfl underlying4 rfl rfl hp175 hg177) ?_
    refine lj 14 R33_1_N rfl rfl rfl (ov_pickF rfl rfl rfl rfl rfl hb166 rfl) ?_
    refine lj 15 R33_1_N rfl rfl rfl (opv_move rfl rfl rfl) ?_
    rcases Bool.eq_false_or_eq_true x176 with hb178 | hb178
    · replace H := cnd_t H hb178
      refine ls 16 R33_1_N rfl rfl ⟨_, rfl, .inl ⟨_, rfl, gq hb178 rfl⟩⟩ ?_
      refine ls 17 R33_1_N rfl rfl ⟨_, rfl, .inl ⟨_, rfl, gq hb178 rfl⟩⟩ ?_
      refine ls 18 R33_1_N rfl rfl ⟨_, rfl, .inl ⟨_, rfl, gq hb178 rfl⟩⟩ ?_
      refine ls 19 R33_1_N rfl rfl ⟨_, rfl, .inl ⟨_, rfl, gq hb178 rfl⟩⟩ ?_
      refine ls 20 R33_1_N rfl rfl ⟨_, rfl, .inl ⟨_, rfl, gq hb178 rfl⟩⟩ ?_
      refine ls 21 R33_1_N rfl rfl ⟨_, rfl, .inl ⟨_, rfl, gq hb178 rfl⟩⟩ ?_
      refine lj 22 R33_1_N rfl rfl rfl (ov_pickT rfl rfl rfl rfl rfl hb178 rfl) ?_
      refine aops_nil ?_
      exact S33_1_ok Q E  _ r_0 true aw h0 rfl H
    · replace H := cnd_f H hb178
      refine lj 16 R33_1_N rfl rfl ⟨_, rfl, .inl ⟨_, rfl, gq hb178 rfl⟩⟩ (opv_move rfl rfl h0) ?_
      obtain ⟨hp179, H⟩ := H
      refine lj 17 R33_1_N rfl rfl ⟨_, rfl, .inl ⟨_, rfl, gq hb178 rfl⟩⟩ (ov_nck rfl rfl rfl hp179) ?_
      obtain ⟨b181, i182, p180, hp183, hv184, H⟩ := H
      refine lj 18 R33_1_N rfl rfl ⟨_, rfl, .inl ⟨_, rfl, gq hb178 rfl⟩⟩ (ov_fldA rfl rfl underlying84 rfl sz30 (by decide) rfl hp183 rfl hv184) ?_
      obtain ⟨b185, i186, x188, hp187, hg189, H⟩ := H
      refine lj 19 R33_1_N rfl rfl ⟨_, rfl, .inl ⟨_, rfl, gq hb178 rfl⟩⟩ (ov_ldV rfl underlying30 rfl rfl rfl hp187 hg189) ?_
      obtain ⟨q191, l192, c193, n190, hv194, hn195, H⟩ := H
      refine lj 20 R33_1_N rfl rfl ⟨_, rfl, .inl ⟨_, rfl, gq hb178 rfl⟩⟩ (ov_len rfl rfl rfl underlying30 rfl hv194 hn195) ?_
      refine lj 21 R33_1_N rfl rfl ⟨_, rfl, .inl ⟨_, rfl, gq hb178 rfl⟩⟩ (opv_eqI rfl rfl rfl rfl rfl) ?_
      refine lj 22 R33_1_N rfl rfl rfl (ov_pickF rfl rfl rfl rfl rfl hb178 rfl) ?_
      refine aops_nil ?_
      exact S33_1_ok Q E  _ r_0 (decide (n190 = 0)) aw h0 rfl H
theorem F33_ok {Q : Int → AW → Prop} {E : List PanicEntry → AW → Prop} (r_0 : Value) (aw : AW) (H : S33_0 Q E r_0 aw) : CallP prog 33 [r_0] aw sh33 Q E :=
  callP_of func33 C33_is rfl (Nat.le_of_ble_eq_true rfl) (S33_0_ok Q E _ r_0 aw rfl H)
def C20_0 := bodyOf f20
theorem C20_is : f20.body = some C20_0 := by kernel_rfl
def C20_1 := cl C20_0
def R20_0 := regOps C20_1
def C20_2 := cr C20_0
def C20_3 := cl C20_2
def R20_1 := regOps C20_3
def C20_4 := cr C20_2
def C20_5 := cl C20_4
def C20_6 := cl C20_5
def R20_2 := regOps C20_6
def C20_7 := cr C20_5
def C20_8 := cl C20_7
def C20_9 := cl C20_8
def R20_3 := regOps C20_9
def C20_10 := cr C20_8
def C20_11 := cl C20_10
def R20_4 := regOps C20_11
def C20_12 := cr C20_10
def C20_13 := cr C20_7
def C20_14 := cr C20_4
def C20_15 := cl C20_14
def R20_5 := regOps C20_15
def C20_16 := cr C20_14
theorem R20_0_N : dstsOk 30 R20_0 = true := by decide +kernel
theorem R20_1_N : dstsOk 30 R20_1 = true := by decide +kernel
theorem R20_2_N : dstsOk 30 R20_2 = true := by decide +kernel
theorem R20_3_N : dstsOk 30 R20_3 = true := by decide +kernel
theorem R20_4_N : dstsOk 30 R20_4 = true := by decide +kernel
theorem R20_5_N : dstsOk 30 R20_5 = true := by decide +kernel
def S20_0 (Q : Int → AW → Prop) (E : List PanicEntry → AW → Prop)  (r_0 : Value) (most_1 : Int) (aw : AW) : Prop :=
  CallP prog 33 [r_0] aw sh33 (fun r1 aw2 =>
  nilB (.pointer 84) r_0 (.pointer none) fun q3 =>
  cnd q3 (CallP prog 35 [r_0] aw2 sh35 (fun r8 aw9 =>
  Q 0 aw9) E) (nck r_0 (fldA r_0 1 fun p11 =>
  ldB aw2 p11 fun x19 =>
  cnd x19 (CallP prog 35 [r_0] aw2 sh35 (fun r23 aw24 =>
  Q 0 aw24) E) (cnd (decide (most_1 < 0)) (CallP prog 35 [r_0] aw2 sh35 (fun r27 aw28 =>
  Q 0 aw28) E) (cnd (decide ((IntKind.u64.wrap most_1) < r1)) (CallP prog 35 [r_0] aw2 sh35 (fun r30 aw31 =>
  Q 0 aw31) E) (Q (IntKind.i64.wrap r1) aw2)))))) E
theorem S20_0_ok (Q : Int → AW → Prop) (E : List PanicEntry → AW → Prop)  (ρ : Env) (r_0 : Value) (most_1 : Int) (aw : AW) (h0 : ρ 0 = r_0) (h1 : ρ 1 = .int .i64 most_1) (H : S20_0 Q E  r_0 most_1 aw) :
    AGo prog 30 [.code C20_0] ρ [] aw (RR prog f20 30 sh20 Q E) := by
  unfold S20_0 at H
  refine ago_seqE (rfl : C20_0 = .seq C20_1 C20_2) ?_
  refine ago_regE (rfl : C20_1 = .region 0 R20_0 false) (l := [0]) rfl ?_
  refine lj 4 R20_0_N rfl rfl rfl (opv_assign rfl rfl rfl) ?_
  refine aops_nil ?_
  refine ago_seqE (rfl : C20_2 = .seq C20_3 C20_4) ?_
  refine ago_regE (rfl : C20_3 = .region 1 R20_1 false) (l := [0, 1, 2]) rfl ?_
  refine lj 6 R20_1_N rfl rfl rfl (opv_move rfl rfl h0) ?_
  refine lc 7 R20_1_N rfl rfl rfl (opc_of rfl rfl is33 (ma_cons rfl rfl)) H (fun _ _ h => ⟨rfl, h⟩) fun r1 aw2 H => ?_
  refine lj 5 R20_1_N rfl rfl rfl (opv_assign rfl rfl rfl) ?_
  refine aops_nil ?_
  refine ago_seqE (rfl : C20_4 = .seq C20_5 C20_14) ?_
  refine ago_seqE (rfl : C20_5 = .seq C20_6 C20_7) ?_
  refine ago_regE (rfl : C20_6 = .region 2 R20_2 false) (l := [0, 1, 2, 3, 4, 5, 6, 7, 8, 9, 10, 11, 12, 13, 14, 15, 16, 17]) rfl ?_
  refine lj 8 R20_2_N rfl rfl rfl (opv_move rfl rfl h0) ?_
  obtain ⟨q3, hf4, hq5, H⟩ := H
  refine lj 9 R20_2_N rfl rfl rfl (ov_eqNil rfl rfl underlying54 rfl hf4 hq5) ?_
  refine lj 10 R20_2_N rfl rfl rfl (opv_move rfl rfl rfl) ?_
  rcases Bool.eq_false_or_eq_true q3 with hb6 | hb6
  · replace H := cnd_t H hb6
    refine ls 11 R20_2_N rfl rfl ⟨_, rfl, .inl ⟨_, rfl, gq hb6 rfl⟩⟩ ?_
    refine ls 12 R20_2_N rfl rfl ⟨_, rfl, .inl ⟨_, rfl, gq hb6 rfl⟩⟩ ?_
    refine ls 13 R20_2_N rfl rfl ⟨_, rfl, .inl ⟨_, rfl, gq hb6 rfl⟩⟩ ?_
    refine ls 14 R20_2_N rfl rfl ⟨_, rfl, .inl ⟨_, rfl, gq hb6 rfl⟩⟩ ?_
    refine lj 15 R20_2_N rfl rfl rfl (ov_pickT rfl rfl rfl rfl rfl hb6 rfl) ?_
    refine lj 16 R20_2_N rfl rfl rfl (opv_move rfl rfl rfl) ?_
    refine ls 17 R20_2_N rfl rfl ⟨_, rfl, .inl ⟨_, rfl, gq rfl rfl⟩⟩ ?_
    refine ls 18 R20_2_N rfl rfl ⟨_, rfl, .inl ⟨_, rfl, gq rfl rfl⟩⟩ ?_
    refine lj 19 R20_2_N rfl rfl rfl (ov_pickT rfl rfl rfl rfl rfl rfl rfl) ?_
    refine lj 20 R20_2_N rfl rfl rfl (opv_move rfl rfl rfl) ?_
    refine ls 21 R20_2_N rfl rfl ⟨_, rfl, .inl ⟨_, rfl, gq rfl rfl⟩⟩ ?_
    refine ls 22 R20_2_N rfl rfl ⟨_, rfl, .inl ⟨_, rfl, gq rfl rfl⟩⟩ ?_
    refine ls 23 R20_2_N rfl rfl ⟨_, rfl, .inl ⟨_, rfl, gq rfl rfl⟩⟩ ?_
    refine ls 24 R20_2_N rfl rfl ⟨_, rfl, .inl ⟨_, rfl, gq rfl rfl⟩⟩ ?_
    refine lj 25 R20_2_N rfl rfl rfl (ov_pickT rfl rfl rfl rfl rfl rfl rfl) ?_
    refine aops_nil ?_
    refine ago_condE  (rfl : C20_7 = .cond (.tmp 25) C20_8 C20_13) rfl rfl (fun h => ?_) (fun h => tf h)
    refine ago_seqE (rfl : C20_8 = .seq C20_9 C20_10) ?_
    refine ago_cut (fun ρ => ρ 0 = r_0 ∧ True) ⟨h0, trivial⟩ (fun ρ ⟨h0, _⟩ => ?_)
    refine ago_regE (rfl : C20_9 = .region 3 R20_3 false) (l := [0, 1]) rfl ?_
    refine lj 26 R20_3_N rfl rfl rfl (opv_move rfl rfl h0) ?_
    refine lc 27 R20_3_N rfl rfl rfl (opc_of rfl rfl is35 (ma_cons rfl rfl)) H (fun _ _ h => ⟨rfl, h⟩) fun r8 aw9 H => ?_
    refine aops_nil ?_
    refine ago_seqE (rfl : C20_10 = .seq C20_11 C20_12) ?_
    refine ago_regE (rfl : C20_11 = .region 4 R20_4 false) (l := [0]) rfl ?_
    refine lj 4 R20_4_N rfl rfl rfl (opv_assign rfl rfl rfl) ?_
    refine aops_nil ?_
    exact ago_retE (rfl : C20_12 = .ret) (r := 0) (ares_1 rfl (oneT rfl)) rfl H
  · replace H := cnd_f H hb6
    refine lj 11 R20_2_N rfl rfl ⟨_, rfl, .inl ⟨_, rfl, gq hb6 rfl⟩⟩ (opv_move rfl rfl h0) ?_
    obtain ⟨hp10, H⟩ := H
    refine lj 12 R20_2_N rfl rfl ⟨_, rfl, .inl ⟨_, rfl, gq hb6 rfl⟩⟩ (ov_nck rfl rfl rfl hp10) ?_
    obtain ⟨b12, i13, p11, hp14, hv15, H⟩ := H
    refine lj 13 R20_2_N rfl rfl ⟨_, rfl, .inl ⟨_, rfl, gq hb6 rfl⟩⟩ (ov_fldA rfl rfl underlying84 rfl sz4 (by decide) rfl hp14 rfl hv15) ?_
    obtain ⟨b16, i17, x19, hp18, hg20, H⟩ := H
    refine lj 14 R20_2_N rfl rfl ⟨_, rfl, .inl ⟨_, rfl, gq hb6 rfl⟩⟩ (ov_ldB rfl underlying4 rfl rfl hp18 hg20) ?_
    refine lj 15 R20_2_N rfl rfl rfl (ov_pickF rfl rfl rfl rfl rfl hb6 rfl) ?_
    refine lj 16 R20_2_N rfl rfl rfl (opv_move rfl rfl rfl) ?_
    rcases Bool.eq_false_or_eq_true x19 with hb21 | hb21
    · replace H := cnd_t H hb21
      refine ls 17 R20_2_N rfl rfl ⟨_, rfl, .inl ⟨_, rfl, gq hb21 rfl⟩⟩ ?_
      refine ls 18 R20_2_N rfl rfl ⟨_, rfl, .inl ⟨_, rfl, gq hb21 rfl⟩⟩ ?_
      refine lj 19 R20_2_N rfl rfl rfl (ov_pickT rfl rfl rfl rfl rfl hb21 rfl) ?_
      refine lj 20 R20_2_N rfl rfl rfl (opv_move rfl rfl rfl) ?_
      refine ls 21 R20_2_N rfl rfl ⟨_, rfl, .inl ⟨_, rfl, gq rfl rfl⟩⟩ ?_
      refine ls 22 R20_2_N rfl rfl ⟨_, rfl, .inl ⟨_, rfl, gq rfl rfl⟩⟩ ?_
      refine ls 23 R20_2_N rfl rfl ⟨_, rfl, .inl ⟨_, rfl, gq rfl rfl⟩⟩ ?_
      refine ls 24 R20_2_N rfl rfl ⟨_, rfl, .inl ⟨_, rfl, gq rfl rfl⟩⟩ ?_
      refine lj 25 R20_2_N rfl rfl rfl (ov_pickT rfl rfl rfl rfl rfl rfl rfl) ?_
      refine aops_nil ?_
      refine ago_condE  (rfl : C20_7 = .cond (.tmp 25) C20_8 C20_13) rfl rfl (fun h => ?_) (fun h => tf h)
      refine ago_seqE (rfl : C20_8 = .seq C20_9 C20_10) ?_
      refine ago_cut (fun ρ => ρ 0 = r_0 ∧ True) ⟨h0, trivial⟩ (fun ρ ⟨h0, _⟩ => ?_)
      refine ago_regE (rfl : C20_9 = .region 3 R20_3 false) (l := [0, 1]) rfl ?_
      refine lj 26 R20_3_N rfl rfl rfl (opv_move rfl rfl h0) ?_
      refine lc 27 R20_3_N rfl rfl rfl (opc_of rfl rfl is35 (ma_cons rfl rfl)) H (fun _ _ h => ⟨rfl, h⟩) fun r23 aw24 H => ?_
      refine aops_nil ?_
      refine ago_seqE (rfl : C20_10 = .seq C20_11 C20_12) ?_
      refine ago_regE (rfl : C20_11 = .region 4 R20_4 false) (l := [0]) rfl ?_
      refine lj 4 R20_4_N rfl rfl rfl (opv_assign rfl rfl rfl) ?_
      refine aops_nil ?_
      exact ago_retE (rfl : C20_12 = .ret) (r := 0) (ares_1 rfl (oneT rfl)) rfl H
    · replace H := cnd_f H hb21
      refine lj 17 R20_2_N rfl rfl ⟨_, rfl, .inl ⟨_, rfl, gq hb21 rfl⟩⟩ (opv_move rfl rfl h1) ?_
      refine lj 18 R20_2_N rfl rfl ⟨_, rfl, .inl ⟨_, rfl, gq hb21 rfl⟩⟩ (opv_lt rfl rfl rfl rfl rfl) ?_
      refine lj 19 R20_2_N rfl rfl rfl (ov_pickF rfl rfl rfl rfl rfl hb21 rfl) ?_
      refine lj 20 R20_2_N rfl rfl rfl (opv_move rfl rfl rfl) ?_
      rcases Bool.eq_false_or_eq_true (decide (most_1 < 0)) with hb25 | hb25
      · replace H := cnd_t H hb25
        refine ls 21 R20_2_N rfl rfl ⟨_, rfl, .inl ⟨_, rfl, gq hb25 rfl⟩⟩ ?_
        refine ls 22 R20_2_N rfl rfl ⟨_, rfl, .inl ⟨_, rfl, gq hb25 rfl⟩⟩ ?_
        refine ls 23 R20_2_N rfl rfl ⟨_, rfl, .inl ⟨_, rfl, gq hb25 rfl⟩⟩ ?_
        refine ls 24 R20_2_N rfl rfl ⟨_, rfl, .inl ⟨_, rfl, gq hb25 rfl⟩⟩ ?_
        refine lj 25 R20_2_N rfl rfl rfl (ov_pickT rfl rfl rfl rfl rfl hb25 rfl) ?_
        refine aops_nil ?_
        refine ago_condE  (rfl : C20_7 = .cond (.tmp 25) C20_8 C20_13) rfl rfl (fun h => ?_) (fun h => tf h)
        refine ago_seqE (rfl : C20_8 = .seq C20_9 C20_10) ?_
        refine ago_cut (fun ρ => ρ 0 = r_0 ∧ True) ⟨h0, trivial⟩ (fun ρ ⟨h0, _⟩ => ?_)
        refine ago_regE (rfl : C20_9 = .region 3 R20_3 false) (l := [0, 1]) rfl ?_
        refine lj 26 R20_3_N rfl rfl rfl (opv_move rfl rfl h0) ?_
        refine lc 27 R20_3_N rfl rfl rfl (opc_of rfl rfl is35 (ma_cons rfl rfl)) H (fun _ _ h => ⟨rfl, h⟩) fun r27 aw28 H => ?_
        refine aops_nil ?_
        refine ago_seqE (rfl : C20_10 = .seq C20_11 C20_12) ?_
        refine ago_regE (rfl : C20_11 = .region 4 R20_4 false) (l := [0]) rfl ?_
        refine lj 4 R20_4_N rfl rfl rfl (opv_assign rfl rfl rfl) ?_
        refine aops_nil ?_
        exact ago_retE (rfl : C20_12 = .ret) (r := 0) (ares_1 rfl (oneT rfl)) rfl H
      · replace H := cnd_f H hb25
        refine lj 21 R20_2_N rfl rfl ⟨_, rfl, .inl ⟨_, rfl, gq hb25 rfl⟩⟩ (opv_move rfl rfl rfl) ?_
        refine lj 22 R20_2_N rfl rfl ⟨_, rfl, .inl ⟨_, rfl, gq hb25 rfl⟩⟩ (opv_move rfl rfl h1) ?_
        refine lj 23 R20_2_N rfl rfl ⟨_, rfl, .inl ⟨_, rfl, gq hb25 rfl⟩⟩ (opv_conv rfl rfl underlying3 underlying39 rfl) ?_
        refine lj 24 R20_2_N rfl rfl ⟨_, rfl, .inl ⟨_, rfl, gq hb25 rfl⟩⟩ (opv_gt rfl rfl rfl rfl rfl) ?_
        refine lj 25 R20_2_N rfl rfl rfl (ov_pickF rfl rfl rfl rfl rfl hb25 rfl) ?_
        refine aops_nil ?_
        refine ago_condE  (rfl : C20_7 = .cond (.tmp 25) C20_8 C20_13) rfl rfl (fun hb29 => ?_) (fun hb29 => ?_)
        · replace H := cnd_t H hb29
          refine ago_seqE (rfl : C20_8 = .seq C20_9 C20_10) ?_
          refine ago_cut (fun ρ => ρ 0 = r_0 ∧ True) ⟨h0, trivial⟩ (fun ρ ⟨h0, _⟩ => ?_)
          refine ago_regE (rfl : C20_9 = .region 3 R20_3 false) (l := [0, 1]) rfl ?_
          refine lj 26 R20_3_N rfl rfl rfl (opv_move rfl rfl h0) ?_
          refine lc 27 R20_3_N rfl rfl rfl (opc_of rfl rfl is35 (ma_cons rfl rfl)) H (fun _ _ h => ⟨rfl, h⟩) fun r30 aw31 H => ?_
          refine aops_nil ?_
          refine ago_seqE (rfl : C20_10 = .seq C20_11 C20_12) ?_
          refine ago_regE (rfl : C20_11 = .region 4 R20_4 false) (l := [0]) rfl ?_
          refine lj 4 R20_4_N rfl rfl rfl (opv_assign rfl rfl rfl) ?_
          refine aops_nil ?_
          exact ago_retE (rfl : C20_12 = .ret) (r := 0) (ares_1 rfl (oneT rfl)) rfl H
        replace H := cnd_f H hb29
        refine ago_skipE (rfl : C20_13 = .skip) ?_
        refine ago_seqE (rfl : C20_14 = .seq C20_15 C20_16) ?_
        refine ago_cut (fun ρ => ρ 5 = .int .u64 r1 ∧ True) ⟨rfl, trivial⟩ (fun ρ ⟨h5, _⟩ => ?_)
        refine ago_regE (rfl : C20_15 = .region 5 R20_5 false) (l := [0, 1, 2]) rfl ?_
        refine lj 28 R20_5_N rfl rfl rfl (opv_move rfl rfl h5) ?_
        refine lj 29 R20_5_N rfl rfl rfl (opv_conv rfl rfl underlying39 underlying3 rfl) ?_
        refine lj 4 R20_5_N rfl rfl rfl (opv_assign rfl rfl rfl) ?_
        refine aops_nil ?_
        exact ago_retE (rfl : C20_16 = .ret) (r := (IntKind.i64.wrap r1)) (ares_1 rfl (oneT rfl)) rfl H
theorem F20_ok {Q : Int → AW → Prop} {E : List PanicEntry → AW → Prop} (r_0 : Value) (most_1 : Int) (aw : AW) (H : S20_0 Q E r_0 most_1 aw) : CallP prog 20 [r_0, .int .i64 most_1] aw sh20 Q E :=
  callP_of func20 C20_is rfl (Nat.le_of_ble_eq_true rfl) (S20_0_ok Q E _ r_0 most_1 aw rfl rfl H)
def C34_0 := bodyOf f34
theorem C34_is : f34.body = some C34_0 := by kernel_rfl
def C34_1 := cl C34_0
def R34_0 := regOps C34_1
def C34_2 := cr C34_0
def C34_3 := cl C34_2
def R34_1 := regOps C34_3
def C34_4 := cr C34_2
def C34_5 := cl C34_4
def C34_6 := cl C34_5
def R34_2 := regOps C34_6
def C34_7 := cr C34_5
def C34_8 := cl C34_7
def C34_9 := cl C34_8
def R34_3 := regOps C34_9
def C34_10 := cr C34_8
def C34_11 := cl C34_10
def R34_4 := regOps C34_11
def C34_12 := cr C34_10
def C34_13 := cr C34_7
def C34_14 := cr C34_4
def C34_15 := cl C34_14
def R34_5 := regOps C34_15
def C34_16 := cr C34_14
def C34_17 := cl C34_16
def R34_6 := regOps C34_17
def C34_18 := cr C34_16
def C34_19 := cl C34_18
def R34_7 := regOps C34_19
def C34_20 := cr C34_18
theorem R34_0_N : dstsOk 46 R34_0 = true := by decide +kernel
theorem R34_1_N : dstsOk 46 R34_1 = true := by decide +kernel
theorem R34_2_N : dstsOk 46 R34_2 = true := by decide +kernel
theorem R34_3_N : dstsOk 46 R34_3 = true := by decide +kernel
theorem R34_4_N : dstsOk 46 R34_4 = true := by decide +kernel
theorem R34_5_N : dstsOk 46 R34_5 = true := by decide +kernel
theorem R34_6_N : dstsOk 46 R34_6 = true := by decide +kernel
theorem R34_7_N : dstsOk 46 R34_7 = true := by decide +kernel
def S34_1 (Q : Value → AW → Prop) (E : List PanicEntry → AW → Prop)  (r_0 : Value) (n_5 : Int) (t_26 : Bool) (aw : AW) : Prop :=
  cnd t_26 (CallP prog 35 [r_0] aw sh35 (fun r2 aw3 =>
  Q (.slice none 0 0) aw3) E) (nck r_0 (fldA r_0 0 fun p5 =>
  ldV aw p5 fun x13 =>
  cutV aw 1 x13 0 n_5 fun v15 =>
  CallP prog 32 [v15] aw sh32 (fun r17 aw18 =>
  nck r_0 (fldA r_0 0 fun p20 =>
  ldV aw18 p20 fun x28 =>
  cutV aw18 1 x28 n_5 (lenV x28) fun v30 =>
  nck r_0 (fldA r_0 0 fun p33 =>
  st aw18 p33 [v30] fun aw38 =>
  Q r17 aw38))) E))
def S34_0 (Q : Value → AW → Prop) (E : List PanicEntry → AW → Prop)  (r_0 : Value) (most_1 : Int) (aw : AW) : Prop :=
  CallP prog 20 [r_0, .int .i64 most_1] aw sh20 (fun r45 aw46 =>
  nilB (.pointer 84) r_0 (.pointer none) fun q47 =>
  cnd q47 (S34_1 Q E  r_0 r45 true aw46) (nck r_0 (fldA r_0 1 fun p52 =>
  ldB aw46 p52 fun x60 =>
  cnd x60 (S34_1 Q E  r_0 r45 true aw46) (nck r_0 (fldA r_0 0 fun p64 =>
  ldV aw46 p64 fun x72 =>
  slen x72 fun n74 =>
  S34_1 Q E  r_0 r45 (decide (n74 < r45)) aw46))))) E
theorem S34_1_ok (Q : Value → AW → Prop) (E : List PanicEntry → AW → Prop)  (ρ : Env) (r_0 : Value) (n_5 : Int) (t_26 : Bool) (aw : AW) (h0 : ρ 0 = r_0) (h5 : ρ 5 = .int .i64 n_5) (h26 : ρ 26 = .bool t_26) (H : S34_1 Q E  r_0 n_5 t_26 aw) :
    AGo prog 46 [.code C34_7, .code C34_14] ρ [] aw (RR prog f34 46 sh34 Q E) := by
  unfold S34_1 at H
  refine ago_condE  (rfl : C34_7 = .cond (.tmp 26) C34_8 C34_13) rfl h26 (fun hb1 => ?_) (fun hb1 => ?_)
  · replace H := cnd_t H hb1
    refine ago_seqE (rfl : C34_8 = .seq C34_9 C34_10) ?_
    refine ago_regE (rfl : C34_9 = .region 3 R34_3 false) (l := [0, 1]) rfl ?_
    refine lj 27 R34_3_N rfl rfl rfl (opv_move rfl rfl h0) ?_
    refine lc 28 R34_3_N rfl rfl rfl (opc_of rfl rfl is35 (ma_cons rfl rfl)) H (fun _ _ h => ⟨rfl, h⟩) fun r2 aw3 H => ?_
    refine aops_nil ?_
    refine ago_seqE (rfl : C34_10 = .seq C34_11 C34_12) ?_
    refine ago_regE (rfl : C34_11 = .region 4 R34_4 false) (l := [0]) rfl ?_
    refine lj 4 R34_4_N rfl rfl rfl (opv_assign rfl rfl rfl) ?_
    refine aops_nil ?_
    exact ago_retE (rfl : C34_12 = .ret) (r := (.slice none 0 0)) (ares_1 rfl (oneT rfl)) rfl H
  replace H := cnd_f H hb1
  refine ago_skipE (rfl : C34_13 = .skip) ?_
  refine ago_seqE (rfl : C34_14 = .seq C34_15 C34_16) ?_
  refine ago_regE (rfl : C34_15 = .region 5 R34_5 false) (l := [0, 1, 2, 3, 4, 5, 6, 7]) rfl ?_
  refine lj 29 R34_5_N rfl rfl rfl (opv_move rfl rfl h0) ?_
  obtain ⟨hp4, H⟩ := H
  refine lj 30 R34_5_N rfl rfl rfl (ov_nck rfl rfl rfl hp4) ?_
  obtain ⟨b6, i7, p5, hp8, hv9, H⟩ := H
  refine lj 31 R34_5_N rfl rfl rfl (ov_fldA rfl rfl underlying84 rfl sz30 (by decide) rfl hp8 rfl hv9) ?_
  obtain ⟨b10, i11, x13, hp12, hg14, H⟩ := H
  refine lj 32 R34_5_N rfl rfl rfl (ov_ldV rfl underlying30 rfl rfl rfl hp12 hg14) ?_
  refine lj 33 R34_5_N rfl rfl rfl (opv_move rfl rfl h5) ?_
  obtain ⟨v15, hq16, H⟩ := H
  refine lj 34 R34_5_N rfl rfl rfl (ov_cutV rfl rfl underlying30 sz5 rfl (bndN _ _ _) (bndS rfl) hq16) ?_
  refine lc 35 R34_5_N rfl rfl rfl (opc_of rfl rfl is32 (ma_cons rfl rfl)) H (fun _ _ h => ⟨rfl, h⟩) fun r17 aw18 H => ?_
  refine lj 6 R34_5_N rfl rfl rfl (opv_assign rfl rfl rfl) ?_
  refine aops_nil ?_
  refine ago_seqE (rfl : C34_16 = .seq C34_17 C34_18) ?_
  refine ago_regE (rfl : C34_17 = .region 6 R34_6 false) (l := [0, 1, 2, 3, 4, 5, 6, 7, 8, 9]) rfl ?_
  refine lj 36 R34_6_N rfl rfl rfl (opv_move rfl rfl h0) ?_
  refine lj 37 R34_6_N rfl rfl rfl (opv_move rfl rfl h0) ?_
  obtain ⟨hp19, H⟩ := H
  refine lj 38 R34_6_N rfl rfl rfl (ov_nck rfl rfl rfl hp19) ?_
  obtain ⟨b21, i22, p20, hp23, hv24, H⟩ := H
  refine lj 39 R34_6_N rfl rfl rfl (ov_fldA rfl rfl underlying84 rfl sz30 (by decide) rfl hp23 rfl hv24) ?_
  obtain ⟨b25, i26, x28, hp27, hg29, H⟩ := H
  refine lj 40 R34_6_N rfl rfl rfl (ov_ldV rfl underlying30 rfl rfl rfl hp27 hg29) ?_
  refine lj 41 R34_6_N rfl rfl rfl (opv_move rfl rfl h5) ?_
  obtain ⟨v30, hq31, H⟩ := H
  refine lj 42 R34_6_N rfl rfl rfl (ov_cutV rfl rfl underlying30 sz5 rfl (bndS rfl) (bndN _ _ _) hq31) ?_
  obtain ⟨hp32, H⟩ := H
  refine lj 43 R34_6_N rfl rfl rfl (ov_nck rfl rfl rfl hp32) ?_
  obtain ⟨b34, i35, p33, hp36, hv37, H⟩ := H
  refine lj 44 R34_6_N rfl rfl rfl (ov_fldA rfl rfl underlying84 rfl sz30 (by decide) rfl hp36 rfl hv37) ?_
  obtain ⟨b39, i40, aw38, hp41, hw42, ho43, ha44, H⟩ := H
  refine lk (dt := none) R34_6_N rfl rfl rfl (ov_st rfl rfl rfl rfl rfl (cells_all ho43) sz30 hp41 hw42 ho43 ha44) ?_
  refine aops_nil ?_
  refine ago_seqE (rfl : C34_18 = .seq C34_19 C34_20) ?_
  refine ago_cut (fun ρ => ρ 6 = r17 ∧ True) ⟨rfl, trivial⟩ (fun ρ ⟨h6, _⟩ => ?_)
  refine ago_regE (rfl : C34_19 = .region 7 R34_7 false) (l := [0, 1]) rfl ?_
  refine lj 45 R34_7_N rfl rfl rfl (opv_move rfl rfl h6) ?_
  refine lj 4 R34_7_N rfl rfl rfl (opv_assign rfl rfl rfl) ?_
  refine aops_nil ?_
  exact ago_retE (rfl : C34_20 = .ret) (r := r17) (ares_1 rfl (oneT rfl)) rfl H
theorem S34_0_ok (Q : Value → AW → Prop) (E : List PanicEntry → AW → Prop)  (ρ : Env) (r_0 : Value) (most_1 : Int) (aw : AW) (h0 : ρ 0 = r_0) (h1 : ρ 1 = .int .i64 most_1) (H : S34_0 Q E  r_0 most_1 aw) :
    AGo prog 46 [.code C34_0] ρ [] aw (RR prog f34 46 sh34 Q E) := by
  unfold S34_0 at H
  refine ago_seqE (rfl : C34_0 = .seq C34_1 C34_2) ?_
  refine ago_regE (rfl : C34_1 = .region 0 R34_0 false) (l := [0]) rfl ?_
  refine lj 4 R34_0_N rfl rfl rfl (opv_assign rfl rfl rfl) ?_
  refine aops_nil ?_
  refine ago_seqE (rfl : C34_2 = .seq C34_3 C34_4) ?_
  refine ago_regE (rfl : C34_3 = .region 1 R34_1 false) (l := [0, 1, 2, 3]) rfl ?_
  refine lj 7 R34_1_N rfl rfl rfl (opv_move rfl rfl h0) ?_
  refine lj 8 R34_1_N rfl rfl rfl (opv_move rfl rfl h1) ?_
  refine lc 9 R34_1_N rfl rfl rfl (opc_of rfl rfl is20 (ma_cons rfl (ma_cons rfl rfl))) H (fun _ _ h => ⟨rfl, h⟩) fun r45 aw46 H => ?_
  refine lj 5 R34_1_N rfl rfl rfl (opv_assign rfl rfl rfl) ?_
  refine aops_nil ?_
  refine ago_seqE (rfl : C34_4 = .seq C34_5 C34_14) ?_
  refine ago_seqE (rfl : C34_5 = .seq C34_6 C34_7) ?_
  refine ago_regE (rfl : C34_6 = .region 2 R34_2 false) (l := [0, 1, 2, 3, 4, 5, 6, 7, 8, 9, 10, 11, 12, 13, 14, 15, 16]) rfl ?_
  refine lj 10 R34_2_N rfl rfl rfl (opv_move rfl rfl h0) ?_
  obtain ⟨q47, hf48, hq49, H⟩ := H
  refine lj 11 R34_2_N rfl rfl rfl (ov_eqNil rfl rfl underlying54 rfl hf48 hq49) ?_
  refine lj 12 R34_2_N rfl rfl rfl (opv_move rfl rfl rfl) ?_
  rcases Bool.eq_false_or_eq_true q47 with hb50 | hb50
  · replace H := cnd_t H hb50
    refine ls 13 R34_2_N rfl rfl ⟨_, rfl, .inl ⟨_, rfl, gq hb50 rfl⟩⟩ ?_
    refine ls 14 R34_2_N rfl rfl ⟨_, rfl, .inl ⟨_, rfl, gq hb50 rfl⟩⟩ ?_
    refine ls 15 R34_2_N rfl rfl ⟨_, rfl, .inl ⟨_, rfl, gq hb50 rfl⟩⟩ ?_
    refine ls 16 R34_2_N rfl rfl ⟨_, rfl, .inl ⟨_, rfl, gq hb50 rfl⟩⟩ ?_
    refine lj 17 R34_2_N rfl rfl rfl (ov_pickT rfl rfl rfl rfl rfl hb50 rfl) ?_
    refine lj 18 R34_2_N rfl rfl rfl (opv_move rfl rfl rfl) ?_
    refine ls 19 R34_2_N rfl rfl ⟨_, rfl, .inl ⟨_, rfl, gq rfl rfl⟩⟩ ?_
    refine ls 20 R34_2_N rfl rfl ⟨_, rfl, .inl ⟨_, rfl, gq rfl rfl⟩⟩ ?_
    refine ls 21 R34_2_N rfl rfl ⟨_, rfl, .inl ⟨_, rfl, gq rfl rfl⟩⟩ ?_
    refine ls 22 R34_2_N rfl rfl ⟨_, rfl, .inl ⟨_, rfl, gq rfl rfl⟩⟩ ?_
    refine ls 23 R34_2_N rfl rfl ⟨_, rfl, .inl ⟨_, rfl, gq rfl rfl⟩⟩ ?_
    refine ls 24 R34_2_N rfl rfl ⟨_, rfl, .inl ⟨_, rfl, gq rfl rfl⟩⟩ ?_
    refine ls 25 R34_2_N rfl rfl ⟨_, rfl, .inl ⟨_, rfl, gq rfl rfl⟩⟩ ?_
    refine lj 26 R34_2_N rfl rfl rfl (ov_pickT rfl rfl rfl rfl rfl rfl rfl) ?_
    refine aops_nil ?_
    exact S34_1_ok Q E  _ r_0 r45 true aw46 h0 rfl rfl H
  · replace H := cnd_f H hb50
    refine lj 13 R34_2_N rfl rfl ⟨_, rfl, .inl ⟨_, rfl, gq hb50 rfl⟩⟩ (opv_move rfl rfl h0) ?_
    obtain ⟨hp51, H⟩ := H
    refine lj 14 R34_2_N rfl rfl ⟨_, rfl, .inl ⟨_, rfl, gq hb50 rfl⟩⟩ (ov_nck rfl rfl rfl hp51) ?_
    obtain ⟨b53, i54, p52, hp55, hv56, H⟩ := H
    refine lj 15 R34_2_N rfl rfl ⟨_, rfl, .inl ⟨_, rfl, gq hb50 rfl⟩⟩ (ov_fldA rfl rfl underlying84 rfl sz4 (by decide) rfl hp55 rfl hv56) ?_
    obtain ⟨b57, i58, x60, hp59, hg61, H⟩ := H
    refine lj 16 R34_2_N rfl rfl ⟨_, rfl, .inl ⟨_, rfl, gq hb50 rfl⟩⟩ (ov_ldB rfl underlying4 rfl rfl hp59 hg61) ?_
    refine lj 17 R34_2_N rfl rfl rfl (ov_pickF rfl rfl rfl rfl rfl hb50 rfl) ?_
    refine lj 18 R34_2_N rfl rfl rfl (opv_move rfl rfl rfl) ?_
    rcases Bool.eq_false_or_eq_true x60 with hb62 | hb62
    · replace H := cnd_t H hb62
      refine ls 19 R34_2_N rfl rfl ⟨_, rfl, .inl ⟨_, rfl, gq hb62 rfl⟩⟩ ?_
      refine ls 20 R34_2_N rfl rfl ⟨_, rfl, .inl ⟨_, rfl, gq hb62 rfl⟩⟩ ?_
      refine ls 21 R34_2_N rfl rfl ⟨_, rfl, .inl ⟨_, rfl, gq hb62 rfl⟩⟩ ?_
      refine ls 22 R34_2_N rfl rfl ⟨_, rfl, .inl ⟨_, rfl, gq hb62 rfl⟩⟩ ?_
      refine ls 23 R34_2_N rfl rfl ⟨_, rfl, .inl ⟨_, rfl, gq hb62 rfl⟩⟩ ?_
      refine ls 24 R34_2_N rfl rfl ⟨_, rfl, .inl ⟨_, rfl, gq hb62 rfl⟩⟩ ?_
      refine ls 25 R34_2_N rfl rfl ⟨_, rfl, .inl ⟨_, rfl, gq hb62 rfl⟩⟩ ?_
      refine lj 26 R34_2_N rfl rfl rfl (ov_pickT rfl rfl rfl rfl rfl hb62 rfl) ?_
      refine aops_nil ?_
      exact S34_1_ok Q E  _ r_0 r45 true aw46 h0 rfl rfl H
    · replace H := cnd_f H hb62
      refine lj 19 R34_2_N rfl rfl ⟨_, rfl, .inl ⟨_, rfl, gq hb62 rfl⟩⟩ (opv_move rfl rfl rfl) ?_
      refine lj 20 R34_2_N rfl rfl ⟨_, rfl, .inl ⟨_, rfl, gq hb62 rfl⟩⟩ (opv_move rfl rfl h0) ?_
      obtain ⟨hp63, H⟩ := H
      refine lj 21 R34_2_N rfl rfl ⟨_, rfl, .inl ⟨_, rfl, gq hb62 rfl⟩⟩ (ov_nck rfl rfl rfl hp63) ?_
      obtain ⟨b65, i66, p64, hp67, hv68, H⟩ := H
      refine lj 22 R34_2_N rfl rfl ⟨_, rfl, .inl ⟨_, rfl, gq hb62 rfl⟩⟩ (ov_fldA rfl rfl underlying84 rfl sz30 (by decide) rfl hp67 rfl hv68) ?_
      obtain ⟨b69, i70, x72, hp71, hg73, H⟩ := H
      refine lj 23 R34_2_N rfl rfl ⟨_, rfl, .inl ⟨_, rfl, gq hb62 rfl⟩⟩ (ov_ldV rfl underlying30 rfl rfl rfl hp71 hg73) ?_
      obtain ⟨q75, l76, c77, n74, hv78, hn79, H⟩ := H
      refine lj 24 R34_2_N rfl rfl ⟨_, rfl, .inl ⟨_, rfl, gq hb62 rfl⟩⟩ (ov_len rfl rfl rfl underlying30 rfl hv78 hn79) ?_
      refine lj 25 R34_2_N rfl rfl ⟨_, rfl, .inl ⟨_, rfl, gq hb62 rfl⟩⟩ (opv_gt rfl rfl rfl rfl rfl) ?_
      refine lj 26 R34_2_N rfl rfl rfl (ov_pickF rfl rfl rfl rfl rfl hb62 rfl) ?_
      refine aops_nil ?_
      exact S34_1_ok Q E  _ r_0 r45 (decide (n74 < r45)) aw46 h0 rfl rfl H
theorem F34_ok {Q : Value → AW → Prop} {E : List PanicEntry → AW → Prop} (r_0 : Value) (most_1 : Int) (aw : AW) (H : S34_0 Q E r_0 most_1 aw) : CallP prog 34 [r_0, .int .i64 most_1] aw sh34 Q E :=
  callP_of func34 C34_is rfl (Nat.le_of_ble_eq_true rfl) (S34_0_ok Q E _ r_0 most_1 aw rfl rfl H)
def C18_0 := bodyOf f18
theorem C18_is : f18.body = some C18_0 := by kernel_rfl
def C18_1 := cl C18_0
def R18_0 := regOps C18_1
def C18_2 := cr C18_0
def C18_3 := cl C18_2
def R18_1 := regOps C18_3
def C18_4 := cr C18_2
def C18_5 := cl C18_4
def R18_2 := regOps C18_5
def C18_6 := cr C18_4
theorem R18_0_N : dstsOk 14 R18_0 = true := by decide +kernel
theorem R18_1_N : dstsOk 14 R18_1 = true := by decide +kernel
theorem R18_2_N : dstsOk 14 R18_2 = true := by decide +kernel
def S18_0 (Q : Int → AW → Prop) (E : List PanicEntry → AW → Prop)  (r_0 : Value) (aw : AW) : Prop :=
  CallP prog 33 [r_0] aw sh33 (fun r1 aw2 =>
  Q (bitsOf .xor .i64 (IntKind.i64.wrap (Int.fdiv r1 (2 ^ (min (1 : Int).toNat IntKind.u64.bits)))) (IntKind.i64.wrap (-(IntKind.i64.wrap (bitsOf .and .u64 r1 1))))) aw2) E
theorem S18_0_ok (Q : Int → AW → Prop) (E : List PanicEntry → AW → Prop)  (ρ : Env) (r_0 : Value) (aw : AW) (h0 : ρ 0 = r_0) (H : S18_0 Q E  r_0 aw) :
    AGo prog 14 [.code C18_0] ρ [] aw (RR prog f18 14 sh18 Q E) := by
  unfold S18_0 at H
  refine ago_seqE (rfl : C18_0 = .seq C18_1 C18_2) ?_
  refine ago_regE (rfl : C18_1 = .region 0 R18_0 false) (l := [0]) rfl ?_
  refine lj 2 R18_0_N rfl rfl rfl (opv_assign rfl rfl rfl) ?_
  refine aops_nil ?_
  refine ago_seqE (rfl : C18_2 = .seq C18_3 C18_4) ?_
  refine ago_regE (rfl : C18_3 = .region 1 R18_1 false) (l := [0, 1, 2]) rfl ?_
  refine lj 4 R18_1_N rfl rfl rfl (opv_move rfl rfl h0) ?_
  refine lc 5 R18_1_N rfl rfl rfl (opc_of rfl rfl is33 (ma_cons rfl rfl)) H (fun _ _ h => ⟨rfl, h⟩) fun r1 aw2 H => ?_
  refine lj 3 R18_1_N rfl rfl rfl (opv_assign rfl rfl rfl) ?_
  refine aops_nil ?_
  refine ago_seqE (rfl : C18_4 = .seq C18_5 C18_6) ?_
  refine ago_regE (rfl : C18_5 = .region 2 R18_2 false) (l := [0, 1, 2, 3, 4, 5, 6, 7, 8]) rfl ?_
  refine lj 6 R18_2_N rfl rfl rfl (opv_move rfl rfl rfl) ?_
  refine lj 7 R18_2_N rfl rfl rfl (opv_shr rfl rfl rfl rfl rfl (by decide)) ?_
  refine lj 8 R18_2_N rfl rfl rfl (opv_conv rfl rfl underlying39 underlying2 rfl) ?_
  refine lj 9 R18_2_N rfl rfl rfl (opv_move rfl rfl rfl) ?_
  refine lj 10 R18_2_N rfl rfl rfl (opv_and rfl rfl rfl rfl rfl) ?_
  refine lj 11 R18_2_N rfl rfl rfl (opv_conv rfl rfl underlying39 underlying2 rfl) ?_
  refine lj 12 R18_2_N rfl rfl rfl (opv_neg rfl rfl rfl) ?_
  refine lj 13 R18_2_N rfl rfl rfl (opv_xor rfl rfl rfl rfl rfl) ?_
  refine lj 2 R18_2_N rfl rfl rfl (opv_assign rfl rfl rfl) ?_
  refine aops_nil ?_
  exact ago_retE (rfl : C18_6 = .ret) (r := (bitsOf .xor .i64 (IntKind.i64.wrap (Int.fdiv r1 (2 ^ (min (1 : Int).toNat IntKind.u64.bits)))) (IntKind.i64.wrap (-(IntKind.i64.wrap (bitsOf .and .u64 r1 1)))))) (ares_1 rfl (oneT rfl)) rfl H
theorem F18_ok {Q : Int → AW → Prop} {E : List PanicEntry → AW → Prop} (r_0 : Value) (aw : AW) (H : S18_0 Q E r_0 aw) : CallP prog 18 [r_0] aw sh18 Q E :=
  callP_of func18 C18_is rfl (Nat.le_of_ble_eq_true rfl) (S18_0_ok Q E _ r_0 aw rfl H)
def C19_0 := bodyOf f19
theorem C19_is : f19.body = some C19_0 := by kernel_rfl
def C19_1 := cl C19_0
def R19_0 := regOps C19_1
def C19_2 := cr C19_0
def C19_3 := cl C19_2
def R19_1 := regOps C19_3
def C19_4 := cr C19_2
theorem R19_0_N : dstsOk 9 R19_0 = true := by decide +kernel
theorem R19_1_N : dstsOk 9 R19_1 = true := by decide +kernel
def S19_0 (Q : ByteArray → AW → Prop) (E : List PanicEntry → AW → Prop)  (r_0 : Value) (most_1 : Int) (aw : AW) : Prop :=
  CallP prog 34 [r_0, .int .i64 most_1] aw sh34 (fun r1 aw2 =>
  toS aw2 r1 fun s3 =>
  Q s3 aw2) E
theorem S19_0_ok (Q : ByteArray → AW → Prop) (E : List PanicEntry → AW → Prop)  (ρ : Env) (r_0 : Value) (most_1 : Int) (aw : AW) (h0 : ρ 0 = r_0) (h1 : ρ 1 = .int .i64 most_1) (H : S19_0 Q E  r_0 most_1 aw) :
    AGo prog 9 [.code C19_0] ρ [] aw (RR prog f19 9 sh19 Q E) := by
  unfold S19_0 at H
  refine ago_seqE (rfl : C19_0 = .seq C19_1 C19_2) ?_
  refine ago_regE (rfl : C19_1 = .region 0 R19_0 false) (l := [0]) rfl ?_
  refine lj 4 R19_0_N rfl rfl rfl (opv_assign rfl rfl rfl) ?_
  refine aops_nil ?_
  refine ago_seqE (rfl : C19_2 = .seq C19_3 C19_4) ?_
  refine ago_regE (rfl : C19_3 = .region 1 R19_1 false) (l := [0, 1, 2, 3, 4]) rfl ?_
  refine lj 5 R19_1_N rfl rfl rfl (opv_move rfl rfl h0) ?_
  refine lj 6 R19_1_N rfl rfl rfl (opv_move rfl rfl h1) ?_
  refine lc 7 R19_1_N rfl rfl rfl (opc_of rfl rfl is34 (ma_cons rfl (ma_cons rfl rfl))) H (fun _ _ h => ⟨rfl, h⟩) fun r1 aw2 H => ?_
  obtain ⟨l8, n7, s3, hs4, hq5, hv6, H⟩ := H
  have hl9 := srcB_len hs4
  refine lj 8 R19_1_N rfl rfl rfl (ov_toS rfl rfl underlying30 underlying9 underlying5 rfl hs4 hq5 hv6) ?_
  refine lj 4 R19_1_N rfl rfl rfl (opv_assign rfl rfl rfl) ?_
  refine aops_nil ?_
  exact ago_retE (rfl : C19_4 = .ret) (r := s3) (ares_1 rfl (oneT rfl)) rfl H
theorem F19_ok {Q : ByteArray → AW → Prop} {E : List PanicEntry → AW → Prop} (r_0 : Value) (most_1 : Int) (aw : AW) (H : S19_0 Q E r_0 most_1 aw) : CallP prog 19 [r_0, .int .i64 most_1] aw sh19 Q E :=
  callP_of func19 C19_is rfl (Nat.le_of_ble_eq_true rfl) (S19_0_ok Q E _ r_0 most_1 aw rfl rfl H)
end
end Go.Proofs.Tryz
