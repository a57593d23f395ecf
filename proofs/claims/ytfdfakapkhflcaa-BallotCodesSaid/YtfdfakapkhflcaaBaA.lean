/- Printed by a program of the prover: what the Go functions of this seat do, in steps. -/
import Derived.Test.YtfdfakapkhflcaaBaF
set_option linter.unusedSectionVars false
set_option linter.unusedSimpArgs false
set_option linter.unusedVariables false
namespace Go.Proofs.Try
open Go Go.Am Go.RowKit
set_option maxHeartbeats 4000000
set_option maxRecDepth 100000
noncomputable section
variable [SymE]
def C57_0 : Code := bodyOf f57
theorem C57_is : f57.body = some C57_0 := by kernel_rfl
def C57_1 : Code := cl C57_0
def R57_0 : Array Oper := regOps C57_1
def C57_2 : Code := cr C57_0
def C57_3 : Code := cl C57_2
def C57_4 : Code := cl C57_3
def R57_1 : Array Oper := regOps C57_4
def C57_5 : Code := cr C57_3
def C57_6 : Code := cl C57_5
def C57_7 : Code := cl C57_6
def R57_2 : Array Oper := regOps C57_7
def C57_8 : Code := cr C57_6
def C57_9 : Code := cr C57_5
def C57_10 : Code := cr C57_2
def C57_11 : Code := cl C57_10
def R57_3 : Array Oper := regOps C57_11
def C57_12 : Code := cr C57_10
theorem R57_0_N : dstsOk 8 R57_0 = true := by decide +kernel
theorem E57_1 : C57_1 = .region 0 R57_0 false := rfl
theorem R57_1_N : dstsOk 8 R57_1 = true := by decide +kernel
theorem E57_4 : C57_4 = .region 1 R57_1 false := rfl
theorem R57_2_N : dstsOk 8 R57_2 = true := by decide +kernel
theorem E57_7 : C57_7 = .region 2 R57_2 false := rfl
theorem E57_8 : C57_8 = .ret := rfl
theorem E57_6 : C57_6 = .seq C57_7 C57_8 := rfl
theorem E57_9 : C57_9 = .skip := rfl
theorem E57_5 : C57_5 = .cond (.tmp 4) C57_6 C57_9 := rfl
theorem E57_3 : C57_3 = .seq C57_4 C57_5 := rfl
theorem R57_3_N : dstsOk 8 R57_3 = true := by decide +kernel
theorem E57_11 : C57_11 = .region 3 R57_3 false := rfl
theorem E57_12 : C57_12 = .ret := rfl
theorem E57_10 : C57_10 = .seq C57_11 C57_12 := rfl
theorem E57_2 : C57_2 = .seq C57_3 C57_10 := rfl
theorem E57_0 : C57_0 = .seq C57_1 C57_2 := rfl
def S57_0 (Q : Value → AW → Prop) (E : List PanicEntry → AW → Prop)  (s_0 : Value) (aw : AW) : Prop :=
  nilB (.slice 5) s_0 (.slice none 0 0) fun q1 =>
  cnd q1 (Q (.slice none 0 0) aw) (alcS aw [] 5 1 0 fun p5 aw6 =>
  app aw6 5 1 1 p5 s_0 fun v9 aw10 =>
  Q v9 aw10)
theorem S57_0_ok (Q : Value → AW → Prop) (E : List PanicEntry → AW → Prop)  (ρ : Env) (s_0 : Value) (aw : AW) (h0 : ρ 0 = s_0) (H : S57_0 Q E  s_0 aw) :
    AGo prog 8 [.code C57_0] ρ [] aw (RR prog f57 8 sh57 Q E) := by
  unfold S57_0 at H
  refine ago_seqE E57_0 ?_
  refine ago_regE E57_1 (l := [0]) rfl ?_
  refine lk (dt := some 2) R57_0_N rfl rfl rfl (opv_assign rfl rfl rfl) ?_
  refine aops_nil ?_
  refine ago_seqE E57_2 ?_
  refine ago_seqE E57_3 ?_
  refine ago_regE E57_4 (l := [0, 1]) rfl ?_
  refine lk (dt := some 3) R57_1_N rfl rfl rfl (opv_move rfl rfl h0) ?_
  obtain ⟨q1, hf2, hq3, H⟩ := H
  refine lk (dt := some 4) R57_1_N rfl rfl rfl (ov_eqNil rfl rfl underlying25 rfl hf2 hq3) ?_
  refine aops_nil ?_
  refine ago_condE  E57_5 rfl rfl (fun hb4 => ?_) (fun hb4 => ?_)
  · replace H := cnd_t H hb4
    refine ago_seqE E57_6 ?_
    refine ago_regE E57_7 (l := [0]) rfl ?_
    refine lk (dt := some 2) R57_2_N rfl rfl rfl (opv_assign rfl rfl rfl) ?_
    refine aops_nil ?_
    exact ago_retE E57_8 (r := (.slice none 0 0)) (ares_1 rfl (oneT rfl)) rfl H
  · replace H := cnd_f H hb4
    refine ago_skipE E57_9 ?_
    refine ago_seqE E57_10 ?_
    refine ago_regE E57_11 (l := [0, 1, 2, 3]) rfl ?_
    obtain ⟨p5, aw6, hp7, ha8, H⟩ := H
    refine lk (dt := some 5) R57_3_N rfl rfl rfl (ov_bs0 rfl underlying25 sz5 hp7 ha8) ?_
    refine lk (dt := some 6) R57_3_N rfl rfl rfl (opv_move rfl rfl h0) ?_
    obtain ⟨v9, aw10, hq11, H⟩ := H
    refine lk (dt := some 7) R57_3_N rfl rfl rfl (ov_app rfl rfl rfl rfl underlying25 sz5 by5 underlying25 rfl z5 rfl (by decide) (by decide) rfl rfl hq11) ?_
    refine lk (dt := some 2) R57_3_N rfl rfl rfl (opv_assign rfl rfl rfl) ?_
    refine aops_nil ?_
    exact ago_retE E57_12 (r := v9) (ares_1 rfl (oneT rfl)) rfl H
theorem F57_ok {Q : Value → AW → Prop} {E : List PanicEntry → AW → Prop} (s_0 : Value) (aw : AW) (H : S57_0 Q E s_0 aw) : CallP prog 57 [s_0] aw sh57 Q E :=
  callP_of func57 C57_is rfl (Nat.le_of_ble_eq_true rfl) (S57_0_ok Q E _ s_0 aw rfl H)
def C62_0 : Code := bodyOf f62
theorem C62_is : f62.body = some C62_0 := by kernel_rfl
def C62_1 : Code := cl C62_0
def R62_0 : Array Oper := regOps C62_1
def C62_2 : Code := cr C62_0
def C62_3 : Code := cl C62_2
def C62_4 : Code := cl C62_3
def R62_1 : Array Oper := regOps C62_4
def C62_5 : Code := cr C62_3
def C62_6 : Code := cl C62_5
def C62_7 : Code := cl C62_6
def R62_2 : Array Oper := regOps C62_7
def C62_8 : Code := cr C62_6
def C62_9 : Code := cr C62_5
def C62_10 : Code := cr C62_2
def C62_11 : Code := cl C62_10
def C62_12 : Code := cl C62_11
def R62_3 : Array Oper := regOps C62_12
def C62_13 : Code := cr C62_11
def C62_14 : Code := cl C62_13
def C62_15 : Code := cl C62_14
def C62_16 : Code := cl C62_15
def R62_4 : Array Oper := regOps C62_16
def C62_17 : Code := cr C62_15
def C62_18 : Code := cl C62_17
def C62_19 : Code := cl C62_18
def C62_20 : Code := cr C62_18
def C62_21 : Code := cr C62_17
def C62_22 : Code := cl C62_21
def C62_23 : Code := cl C62_22
def C62_24 : Code := cl C62_23
def R62_5 : Array Oper := regOps C62_24
def C62_25 : Code := cr C62_23
def C62_26 : Code := cl C62_25
def R62_6 : Array Oper := regOps C62_26
def C62_27 : Code := cr C62_25
def C62_28 : Code := cl C62_27
def C62_29 : Code := cl C62_28
def R62_7 : Array Oper := regOps C62_29
def C62_30 : Code := cr C62_28
def C62_31 : Code := cr C62_27
def C62_32 : Code := cr C62_21
def R62_8 : Array Oper := regOps C62_32
def C62_33 : Code := cr C62_10
def C62_34 : Code := cl C62_33
def R62_9 : Array Oper := regOps C62_34
def C62_35 : Code := cr C62_33
theorem R62_0_N : dstsOk 26 R62_0 = true := by decide +kernel
theorem E62_1 : C62_1 = .region 0 R62_0 false := rfl
theorem R62_1_N : dstsOk 26 R62_1 = true := by decide +kernel
theorem E62_4 : C62_4 = .region 1 R62_1 false := rfl
theorem R62_2_N : dstsOk 26 R62_2 = true := by decide +kernel
theorem E62_7 : C62_7 = .region 2 R62_2 false := rfl
theorem E62_8 : C62_8 = .ret := rfl
theorem E62_6 : C62_6 = .seq C62_7 C62_8 := rfl
theorem E62_9 : C62_9 = .skip := rfl
theorem E62_5 : C62_5 = .cond (.tmp 10) C62_6 C62_9 := rfl
theorem E62_3 : C62_3 = .seq C62_4 C62_5 := rfl
theorem R62_3_N : dstsOk 26 R62_3 = true := by decide +kernel
theorem E62_12 : C62_12 = .region 3 R62_3 false := rfl
theorem R62_4_N : dstsOk 26 R62_4 = true := by decide +kernel
theorem E62_16 : C62_16 = .region 4 R62_4 false := rfl
theorem E62_19 : C62_19 = .skip := rfl
theorem E62_20 : C62_20 = .exit 0 := rfl
theorem E62_18 : C62_18 = .cond (.tmp 14) C62_19 C62_20 := rfl
theorem R62_5_N : dstsOk 26 R62_5 = true := by decide +kernel
theorem E62_24 : C62_24 = .region 5 R62_5 false := rfl
theorem R62_6_N : dstsOk 26 R62_6 = true := by decide +kernel
theorem R62_6_O : linOk R62_6 [0, 1, 2, 3, 4, 5, 6, 7, 8] [] = true := by decide +kernel
theorem E62_26 : C62_26 = .region 6 R62_6 true := rfl
theorem R62_7_N : dstsOk 26 R62_7 = true := by decide +kernel
theorem E62_29 : C62_29 = .region 7 R62_7 false := rfl
theorem E62_30 : C62_30 = .ret := rfl
theorem E62_28 : C62_28 = .seq C62_29 C62_30 := rfl
theorem E62_31 : C62_31 = .skip := rfl
theorem E62_27 : C62_27 = .cond (.tmp 24) C62_28 C62_31 := rfl
theorem E62_25 : C62_25 = .seq C62_26 C62_27 := rfl
theorem E62_23 : C62_23 = .seq C62_24 C62_25 := rfl
theorem E62_22 : C62_22 = .block 1 C62_23 := rfl
theorem R62_8_N : dstsOk 26 R62_8 = true := by decide +kernel
theorem E62_32 : C62_32 = .region 8 R62_8 false := rfl
theorem E62_21 : C62_21 = .seq C62_22 C62_32 := rfl
theorem E62_17 : C62_17 = .seq C62_18 C62_21 := rfl
theorem E62_15 : C62_15 = .seq C62_16 C62_17 := rfl
theorem E62_14 : C62_14 = .loop C62_15 := rfl
theorem E62_13 : C62_13 = .block 0 C62_14 := rfl
theorem E62_11 : C62_11 = .seq C62_12 C62_13 := rfl
theorem R62_9_N : dstsOk 26 R62_9 = true := by decide +kernel
theorem E62_34 : C62_34 = .region 9 R62_9 false := rfl
theorem E62_35 : C62_35 = .ret := rfl
theorem E62_33 : C62_33 = .seq C62_34 C62_35 := rfl
theorem E62_10 : C62_10 = .seq C62_11 C62_33 := rfl
theorem E62_2 : C62_2 = .seq C62_3 C62_10 := rfl
theorem E62_0 : C62_0 = .seq C62_1 C62_2 := rfl
def S62_1s (Q : Bool → AW → Prop) (E : List PanicEntry → AW → Prop)  (nx1 : Value → Value → Int → Int → AW → Prop) (s1_0 : Value) (s2_1 : Value) (t_12 : Int) (t_13 : Int) (aw : AW) : Prop :=
  cnd (decide (t_13 < t_12)) (ixS s1_0 t_13 1 fun p2 =>
  ldI .u8 aw p2 fun x14 =>
  ixS s2_1 t_13 1 fun p16 =>
  ldI .u8 aw p16 fun x28 =>
  cnd (!decide (x14 = x28)) (Q false aw) (nx1 s1_0 s2_1 t_12 (IntKind.i64.wrap (t_13 + 1)) aw)) (Q true aw)
def S62_1 (Q : Bool → AW → Prop) (E : List PanicEntry → AW → Prop)  : Nat → Value → Value → Int → Int → AW → Prop
  | 0 => fun _ _ _ _ _ => False
  | n + 1 => S62_1s Q E  (S62_1 Q E  n)
def S62_0 (Q : Bool → AW → Prop) (E : List PanicEntry → AW → Prop)  (s1_0 : Value) (s2_1 : Value) (aw : AW) : Prop :=
  slen s1_0 fun n31 =>
  slen s2_1 fun n37 =>
  cnd (!decide (n31 = n37)) (Q false aw) (slen s1_0 fun n44 =>
  ∃ n, S62_1 Q E  n s1_0 s2_1 n44 0 aw)
theorem S62_1s_ok (Q : Bool → AW → Prop) (E : List PanicEntry → AW → Prop)  (nx1 : Value → Value → Int → Int → AW → Prop) (L1 : ∀ (ρ : Env) (s1_0 : Value) (s2_1 : Value) (t_12 : Int) (t_13 : Int) (aw : AW) (h0 : ρ 0 = s1_0) (h1 : ρ 1 = s2_1) (h12 : ρ 12 = .int .i64 t_12) (h13 : ρ 13 = .int .i64 t_13), nx1 s1_0 s2_1 t_12 t_13 aw → AGo prog 26 [.code C62_15, .inLoop C62_15, .inBlock 0, .code C62_33] ρ [] aw (RR prog f62 26 sh62 Q E)) (ρ : Env) (s1_0 : Value) (s2_1 : Value) (t_12 : Int) (t_13 : Int) (aw : AW) (h0 : ρ 0 = s1_0) (h1 : ρ 1 = s2_1) (h12 : ρ 12 = .int .i64 t_12) (h13 : ρ 13 = .int .i64 t_13) (H : S62_1s Q E  nx1 s1_0 s2_1 t_12 t_13 aw) :
    AGo prog 26 [.code C62_15, .inLoop C62_15, .inBlock 0, .code C62_33] ρ [] aw (RR prog f62 26 sh62 Q E) := by
  unfold S62_1s at H
  refine ago_seqE E62_15 ?_
  refine ago_regE E62_16 (l := [0]) rfl ?_
  refine lk (dt := some 14) R62_4_N rfl rfl rfl (opv_lt rfl rfl rfl h13 h12) ?_
  refine aops_nil ?_
  refine ago_seqE E62_17 ?_
  refine ago_condE  E62_18 rfl rfl (fun hb1 => ?_) (fun hb1 => ?_)
  · replace H := cnd_t H hb1
    refine ago_skipE E62_19 ?_
    refine ago_seqE E62_21 ?_
    refine ago_blockE E62_22 ?_
    refine ago_seqE E62_23 ?_
    refine ago_regE E62_24 (l := [0, 1]) rfl ?_
    refine lk (dt := some 15) R62_5_N rfl rfl rfl (opv_move rfl rfl h13) ?_
    refine lk (dt := some 5) R62_5_N rfl rfl rfl (opv_assign rfl rfl rfl) ?_
    refine aops_nil ?_
    refine ago_seqE E62_25 ?_
    obtain ⟨b3, i4, l5, c6, p2, hp7, h08, hj9, hv10, H⟩ := H
    obtain ⟨b11, i12, x14, hp13, hg15, H⟩ := H
    obtain ⟨b17, i18, l19, c20, p16, hp21, h022, hj23, hv24, H⟩ := H
    obtain ⟨b25, i26, x28, hp27, hg29, H⟩ := H
    refine ago_drawH (p := [0, 1, 2, 3, 4, 5, 6, 7, 8]) (tl := []) (hv := [(0, s1_0), (1, Value.int .i64 t_13), (2, p2), (3, Value.int .u8 x14), (4, s2_1), (5, Value.int .i64 t_13), (6, p16), (7, Value.int .u8 x28), (8, Value.bool (!decide (x14 = x28)))]) E62_26 mixed R62_6_N R62_6_O rfl (pv_cons rfl (pv_cons rfl (pv_cons rfl (pv_cons rfl (pv_cons rfl (pv_cons rfl (pv_cons rfl (pv_cons rfl (pv_cons rfl (pv_nil _))))))))))
      (ffc (d := 16) (v := s1_0) (hd_v rfl fun ρ hρ => ⟨rfl, opv_move rfl rfl ((hρ 0 (lmem rfl)).trans h0)⟩) rfl rfl
      (ffc (d := 17) (v := .int .i64 t_13) (hd_v rfl fun ρ hρ => ⟨rfl, opv_move rfl rfl ((hρ 5 (lmem rfl)).trans rfl)⟩) rfl rfl
      (ffc (d := 18) (v := p2) (hd_v rfl fun ρ hρ => ⟨rfl, ov_ixS rfl rfl rfl underlying25 sz5 ((hρ 16 (lmem rfl)).trans rfl) ((hρ 17 (lmem rfl)).trans rfl) hp7 h08 hj9 hv10⟩) rfl rfl
      (ffc (d := 19) (v := .int .u8 x14) (hd_v rfl fun ρ hρ => ⟨rfl, ov_ldI rfl underlying5 rfl ((hρ 18 (lmem rfl)).trans rfl) hp13 hg15⟩) rfl rfl
      (ffc (d := 20) (v := s2_1) (hd_v rfl fun ρ hρ => ⟨rfl, opv_move rfl rfl ((hρ 1 (lmem rfl)).trans h1)⟩) rfl rfl
      (ffc (d := 21) (v := .int .i64 t_13) (hd_v rfl fun ρ hρ => ⟨rfl, opv_move rfl rfl ((hρ 5 (lmem rfl)).trans rfl)⟩) rfl rfl
      (ffc (d := 22) (v := p16) (hd_v rfl fun ρ hρ => ⟨rfl, ov_ixS rfl rfl rfl underlying25 sz5 ((hρ 20 (lmem rfl)).trans rfl) ((hρ 21 (lmem rfl)).trans rfl) hp21 h022 hj23 hv24⟩) rfl rfl
      (ffc (d := 23) (v := .int .u8 x28) (hd_v rfl fun ρ hρ => ⟨rfl, ov_ldI rfl underlying5 rfl ((hρ 22 (lmem rfl)).trans rfl) hp27 hg29⟩) rfl rfl
      (ffc (d := 24) (v := .bool (!decide (x14 = x28))) (hd_v rfl fun ρ hρ => ⟨rfl, opv_neI rfl rfl rfl ((hρ 19 (lmem rfl)).trans rfl) ((hρ 23 (lmem rfl)).trans rfl)⟩) rfl rfl
      ffn))))))))) ?_
    refine lt_end ?_
    refine ago_condE  E62_27 rfl rfl (fun hb30 => ?_) (fun hb30 => ?_)
    · replace H := cnd_t H hb30
      refine ago_seqE E62_28 ?_
      refine ago_regE E62_29 (l := [0]) rfl ?_
      refine lk (dt := some 4) R62_7_N rfl rfl rfl (opv_assign rfl rfl rfl) ?_
      refine aops_nil ?_
      exact ago_retE E62_30 (r := false) (ares_1 rfl (oneT rfl)) rfl H
    · replace H := cnd_f H hb30
      refine ago_skipE E62_31 ?_
      refine ago_inBlock ?_
      refine ago_cut (fun ρ => ρ 0 = s1_0 ∧ ρ 1 = s2_1 ∧ ρ 12 = .int .i64 t_12 ∧ ρ 13 = .int .i64 t_13 ∧ True) ⟨h0, h1, h12, h13, trivial⟩ (fun ρ ⟨h0, h1, h12, h13, _⟩ => ?_)
      refine ago_regE E62_32 (l := [0, 1]) rfl ?_
      refine lk (dt := some 25) R62_8_N rfl rfl rfl (opv_add rfl rfl rfl h13 rfl) ?_
      refine lk (dt := some 13) R62_8_N rfl rfl rfl (opv_move rfl rfl rfl) ?_
      refine aops_nil ?_
      refine ago_inLoop ?_
      exact L1 _ s1_0 s2_1 t_12 (IntKind.i64.wrap (t_13 + 1)) aw h0 h1 h12 rfl H
  · replace H := cnd_f H hb1
    refine ago_exitE E62_20 rfl ?_
    refine ago_seqE E62_33 ?_
    refine ago_regE E62_34 (l := [0]) rfl ?_
    refine lk (dt := some 4) R62_9_N rfl rfl rfl (opv_assign rfl rfl rfl) ?_
    refine aops_nil ?_
    exact ago_retE E62_35 (r := true) (ares_1 rfl (oneT rfl)) rfl H
theorem S62_1_ok (Q : Bool → AW → Prop) (E : List PanicEntry → AW → Prop)  : ∀ (n : Nat) (ρ : Env) (s1_0 : Value) (s2_1 : Value) (t_12 : Int) (t_13 : Int) (aw : AW) (h0 : ρ 0 = s1_0) (h1 : ρ 1 = s2_1) (h12 : ρ 12 = .int .i64 t_12) (h13 : ρ 13 = .int .i64 t_13), S62_1 Q E  n s1_0 s2_1 t_12 t_13 aw →
    AGo prog 26 [.code C62_15, .inLoop C62_15, .inBlock 0, .code C62_33] ρ [] aw (RR prog f62 26 sh62 Q E)
  | 0, _, _, _, _, _, _, _, _, _, _ => fun H => H.elim
  | n + 1, ρ, s1_0, s2_1, t_12, t_13, aw, h0, h1, h12, h13 => fun H => S62_1s_ok Q E  _ (S62_1_ok Q E  n) ρ s1_0 s2_1 t_12 t_13 aw h0 h1 h12 h13 H
theorem S62_0_ok (Q : Bool → AW → Prop) (E : List PanicEntry → AW → Prop)  (ρ : Env) (s1_0 : Value) (s2_1 : Value) (aw : AW) (h0 : ρ 0 = s1_0) (h1 : ρ 1 = s2_1) (H : S62_0 Q E  s1_0 s2_1 aw) :
    AGo prog 26 [.code C62_0] ρ [] aw (RR prog f62 26 sh62 Q E) := by
  unfold S62_0 at H
  refine ago_seqE E62_0 ?_
  refine ago_regE E62_1 (l := [0]) rfl ?_
  refine lk (dt := some 4) R62_0_N rfl rfl rfl (opv_assign rfl rfl rfl) ?_
  refine aops_nil ?_
  refine ago_seqE E62_2 ?_
  refine ago_seqE E62_3 ?_
  refine ago_regE E62_4 (l := [0, 1, 2, 3, 4]) rfl ?_
  refine lk (dt := some 6) R62_1_N rfl rfl rfl (opv_move rfl rfl h0) ?_
  obtain ⟨q32, l33, c34, n31, hv35, hn36, H⟩ := H
  refine lk (dt := some 7) R62_1_N rfl rfl rfl (ov_len rfl rfl rfl underlying25 rfl hv35 hn36) ?_
  refine lk (dt := some 8) R62_1_N rfl rfl rfl (opv_move rfl rfl h1) ?_
  obtain ⟨q38, l39, c40, n37, hv41, hn42, H⟩ := H
  refine lk (dt := some 9) R62_1_N rfl rfl rfl (ov_len rfl rfl rfl underlying25 rfl hv41 hn42) ?_
  refine lk (dt := some 10) R62_1_N rfl rfl rfl (opv_neI rfl rfl rfl rfl rfl) ?_
  refine aops_nil ?_
  refine ago_condE  E62_5 rfl rfl (fun hb43 => ?_) (fun hb43 => ?_)
  · replace H := cnd_t H hb43
    refine ago_seqE E62_6 ?_
    refine ago_regE E62_7 (l := [0]) rfl ?_
    refine lk (dt := some 4) R62_2_N rfl rfl rfl (opv_assign rfl rfl rfl) ?_
    refine aops_nil ?_
    exact ago_retE E62_8 (r := false) (ares_1 rfl (oneT rfl)) rfl H
  · replace H := cnd_f H hb43
    refine ago_skipE E62_9 ?_
    refine ago_seqE E62_10 ?_
    refine ago_seqE E62_11 ?_
    refine ago_regE E62_12 (l := [0, 1, 2]) rfl ?_
    refine lk (dt := some 11) R62_3_N rfl rfl rfl (opv_move rfl rfl h0) ?_
    obtain ⟨q45, l46, c47, n44, hv48, hn49, H⟩ := H
    refine lk (dt := some 12) R62_3_N rfl rfl rfl (ov_len rfl rfl rfl underlying25 rfl hv48 hn49) ?_
    refine lk (dt := some 13) R62_3_N rfl rfl rfl (opv_move rfl rfl rfl) ?_
    refine aops_nil ?_
    refine ago_blockE E62_13 ?_
    refine ago_loopE E62_14 ?_
    obtain ⟨n, H⟩ := H
    exact S62_1_ok Q E  n _ s1_0 s2_1 n44 0 aw h0 h1 rfl rfl H
theorem F62_ok {Q : Bool → AW → Prop} {E : List PanicEntry → AW → Prop} (s1_0 : Value) (s2_1 : Value) (aw : AW) (H : S62_0 Q E s1_0 s2_1 aw) : CallP prog 62 [s1_0, s2_1] aw sh62 Q E :=
  callP_of func62 C62_is rfl (Nat.le_of_ble_eq_true rfl) (S62_0_ok Q E _ s1_0 s2_1 aw rfl rfl H)
def C63_0 : Code := bodyOf f63
theorem C63_is : f63.body = some C63_0 := by kernel_rfl
def C63_1 : Code := cl C63_0
def R63_0 : Array Oper := regOps C63_1
def C63_2 : Code := cr C63_0
def C63_3 : Code := cl C63_2
def R63_1 : Array Oper := regOps C63_3
def C63_4 : Code := cr C63_2
theorem R63_0_N : dstsOk 7 R63_0 = true := by decide +kernel
theorem E63_1 : C63_1 = .region 0 R63_0 false := rfl
theorem R63_1_N : dstsOk 7 R63_1 = true := by decide +kernel
theorem E63_3 : C63_3 = .region 1 R63_1 false := rfl
theorem E63_4 : C63_4 = .skip := rfl
theorem E63_2 : C63_2 = .cond (.tmp 3) C63_3 C63_4 := rfl
theorem E63_0 : C63_0 = .seq C63_1 C63_2 := rfl
def S63_0 (Q : Unit → AW → Prop) (E : List PanicEntry → AW → Prop)  (r_0 : Value) (aw : AW) : Prop :=
  nilB (.pointer 116) r_0 (.pointer none) fun q1 =>
  cnd (!q1) (nck r_0 (fldA r_0 1 fun p6 =>
  st aw p6 [.bool true] fun aw11 =>
  Q () aw11)) (Q () aw)
theorem S63_0_ok (Q : Unit → AW → Prop) (E : List PanicEntry → AW → Prop)  (ρ : Env) (r_0 : Value) (aw : AW) (h0 : ρ 0 = r_0) (H : S63_0 Q E  r_0 aw) :
    AGo prog 7 [.code C63_0] ρ [] aw (RR prog f63 7 sh63 Q E) := by
  unfold S63_0 at H
  refine ago_seqE E63_0 ?_
  refine ago_regE E63_1 (l := [0, 1]) rfl ?_
  refine lk (dt := some 2) R63_0_N rfl rfl rfl (opv_move rfl rfl h0) ?_
  obtain ⟨q1, hf2, hq3, H⟩ := H
  refine lk (dt := some 3) R63_0_N rfl rfl rfl (ov_neNil rfl rfl underlying85 rfl hf2 hq3) ?_
  refine aops_nil ?_
  refine ago_condE  E63_2 rfl rfl (fun hb4 => ?_) (fun hb4 => ?_)
  · replace H := cnd_t H hb4
    refine ago_regE E63_3 (l := [0, 1, 2, 3]) rfl ?_
    refine lk (dt := some 4) R63_1_N rfl rfl rfl (opv_move rfl rfl h0) ?_
    obtain ⟨hp5, H⟩ := H
    refine lk (dt := some 5) R63_1_N rfl rfl rfl (ov_nck rfl rfl rfl hp5) ?_
    obtain ⟨b7, i8, p6, hp9, hv10, H⟩ := H
    refine lk (dt := some 6) R63_1_N rfl rfl rfl (ov_fldA rfl rfl underlying116 rfl sz4 (by decide) rfl hp9 rfl hv10) ?_
    obtain ⟨b12, i13, aw11, hp14, hw15, ho16, ha17, H⟩ := H
    refine lk (dt := none) R63_1_N rfl rfl rfl (ov_st rfl rfl rfl rfl rfl rfl sz4 hp14 hw15 ho16 ha17) ?_
    refine aops_nil ?_
    exact ago_nilR (r := ()) (ares_0 rfl ) rfl H
  · replace H := cnd_f H hb4
    refine ago_skipE E63_4 ?_
    exact ago_nilR (r := ()) (ares_0 rfl ) rfl H
theorem F63_ok {Q : Unit → AW → Prop} {E : List PanicEntry → AW → Prop} (r_0 : Value) (aw : AW) (H : S63_0 Q E r_0 aw) : CallP prog 63 [r_0] aw sh63 Q E :=
  callP_of func63 C63_is rfl (Nat.le_of_ble_eq_true rfl) (S63_0_ok Q E _ r_0 aw rfl H)
def C36_0 : Code := bodyOf f36
theorem C36_is : f36.body = some C36_0 := by kernel_rfl
def C36_1 : Code := cl C36_0
def R36_0 : Array Oper := regOps C36_1
def C36_2 : Code := cr C36_0
def C36_3 : Code := cl C36_2
def C36_4 : Code := cl C36_3
def R36_1 : Array Oper := regOps C36_4
def C36_5 : Code := cr C36_3
def C36_6 : Code := cl C36_5
def C36_7 : Code := cl C36_6
def R36_2 : Array Oper := regOps C36_7
def C36_8 : Code := cr C36_6
def C36_9 : Code := cl C36_8
def R36_3 : Array Oper := regOps C36_9
def C36_10 : Code := cr C36_8
def C36_11 : Code := cr C36_5
def C36_12 : Code := cr C36_2
def C36_13 : Code := cl C36_12
def R36_4 : Array Oper := regOps C36_13
def C36_14 : Code := cr C36_12
def C36_15 : Code := cl C36_14
def C36_16 : Code := cl C36_15
def R36_5 : Array Oper := regOps C36_16
def C36_17 : Code := cr C36_15
def C36_18 : Code := cl C36_17
def C36_19 : Code := cl C36_18
def R36_6 : Array Oper := regOps C36_19
def C36_20 : Code := cr C36_18
def C36_21 : Code := cl C36_20
def R36_7 : Array Oper := regOps C36_21
def C36_22 : Code := cr C36_20
def C36_23 : Code := cr C36_17
def C36_24 : Code := cr C36_14
def C36_25 : Code := cl C36_24
def R36_8 : Array Oper := regOps C36_25
def C36_26 : Code := cr C36_24
def C36_27 : Code := cl C36_26
def C36_28 : Code := cl C36_27
def R36_9 : Array Oper := regOps C36_28
def C36_29 : Code := cr C36_27
def C36_30 : Code := cl C36_29
def C36_31 : Code := cl C36_30
def C36_32 : Code := cl C36_31
def R36_10 : Array Oper := regOps C36_32
def C36_33 : Code := cr C36_31
def C36_34 : Code := cl C36_33
def C36_35 : Code := cl C36_34
def C36_36 : Code := cr C36_34
def C36_37 : Code := cr C36_33
def C36_38 : Code := cl C36_37
def C36_39 : Code := cl C36_38
def C36_40 : Code := cl C36_39
def R36_11 : Array Oper := regOps C36_40
def C36_41 : Code := cr C36_39
def R36_12 : Array Oper := regOps C36_41
def C36_42 : Code := cr C36_37
def R36_13 : Array Oper := regOps C36_42
def C36_43 : Code := cr C36_26
def C36_44 : Code := cl C36_43
def R36_14 : Array Oper := regOps C36_44
def C36_45 : Code := cr C36_43
def C36_46 : Code := cl C36_45
def R36_15 : Array Oper := regOps C36_46
def C36_47 : Code := cr C36_45
theorem R36_0_N : dstsOk 88 R36_0 = true := by decide +kernel
theorem E36_1 : C36_1 = .region 0 R36_0 false := rfl
theorem R36_1_N : dstsOk 88 R36_1 = true := by decide +kernel
theorem E36_4 : C36_4 = .region 1 R36_1 false := rfl
theorem R36_2_N : dstsOk 88 R36_2 = true := by decide +kernel
theorem E36_7 : C36_7 = .region 2 R36_2 false := rfl
theorem R36_3_N : dstsOk 88 R36_3 = true := by decide +kernel
theorem E36_9 : C36_9 = .region 3 R36_3 false := rfl
theorem E36_10 : C36_10 = .ret := rfl
theorem E36_8 : C36_8 = .seq C36_9 C36_10 := rfl
theorem E36_6 : C36_6 = .seq C36_7 C36_8 := rfl
theorem E36_11 : C36_11 = .skip := rfl
theorem E36_5 : C36_5 = .cond (.tmp 22) C36_6 C36_11 := rfl
theorem E36_3 : C36_3 = .seq C36_4 C36_5 := rfl
theorem R36_4_N : dstsOk 88 R36_4 = true := by decide +kernel
theorem E36_13 : C36_13 = .region 4 R36_4 false := rfl
theorem R36_5_N : dstsOk 88 R36_5 = true := by decide +kernel
theorem E36_16 : C36_16 = .region 5 R36_5 false := rfl
theorem R36_6_N : dstsOk 88 R36_6 = true := by decide +kernel
theorem E36_19 : C36_19 = .region 6 R36_6 false := rfl
theorem R36_7_N : dstsOk 88 R36_7 = true := by decide +kernel
theorem E36_21 : C36_21 = .region 7 R36_7 false := rfl
theorem E36_22 : C36_22 = .ret := rfl
theorem E36_20 : C36_20 = .seq C36_21 C36_22 := rfl
theorem E36_18 : C36_18 = .seq C36_19 C36_20 := rfl
theorem E36_23 : C36_23 = .skip := rfl
theorem E36_17 : C36_17 = .cond (.tmp 56) C36_18 C36_23 := rfl
theorem E36_15 : C36_15 = .seq C36_16 C36_17 := rfl
theorem R36_8_N : dstsOk 88 R36_8 = true := by decide +kernel
theorem E36_25 : C36_25 = .region 8 R36_8 false := rfl
theorem R36_9_N : dstsOk 88 R36_9 = true := by decide +kernel
theorem E36_28 : C36_28 = .region 9 R36_9 false := rfl
theorem R36_10_N : dstsOk 88 R36_10 = true := by decide +kernel
theorem E36_32 : C36_32 = .region 10 R36_10 false := rfl
theorem E36_35 : C36_35 = .skip := rfl
theorem E36_36 : C36_36 = .exit 0 := rfl
theorem E36_34 : C36_34 = .cond (.tmp 68) C36_35 C36_36 := rfl
theorem R36_11_N : dstsOk 88 R36_11 = true := by decide +kernel
theorem E36_40 : C36_40 = .region 11 R36_11 false := rfl
theorem R36_12_N : dstsOk 88 R36_12 = true := by decide +kernel
theorem E36_41 : C36_41 = .region 12 R36_12 false := rfl
theorem E36_39 : C36_39 = .seq C36_40 C36_41 := rfl
theorem E36_38 : C36_38 = .block 1 C36_39 := rfl
theorem R36_13_N : dstsOk 88 R36_13 = true := by decide +kernel
theorem E36_42 : C36_42 = .region 13 R36_13 false := rfl
theorem E36_37 : C36_37 = .seq C36_38 C36_42 := rfl
theorem E36_33 : C36_33 = .seq C36_34 C36_37 := rfl
theorem E36_31 : C36_31 = .seq C36_32 C36_33 := rfl
theorem E36_30 : C36_30 = .loop C36_31 := rfl
theorem E36_29 : C36_29 = .block 0 C36_30 := rfl
theorem E36_27 : C36_27 = .seq C36_28 C36_29 := rfl
theorem R36_14_N : dstsOk 88 R36_14 = true := by decide +kernel
theorem E36_44 : C36_44 = .region 14 R36_14 false := rfl
theorem R36_15_N : dstsOk 88 R36_15 = true := by decide +kernel
theorem E36_46 : C36_46 = .region 15 R36_15 false := rfl
theorem E36_47 : C36_47 = .ret := rfl
theorem E36_45 : C36_45 = .seq C36_46 C36_47 := rfl
theorem E36_43 : C36_43 = .seq C36_44 C36_45 := rfl
theorem E36_26 : C36_26 = .seq C36_27 C36_43 := rfl
theorem E36_24 : C36_24 = .seq C36_25 C36_26 := rfl
theorem E36_14 : C36_14 = .seq C36_15 C36_24 := rfl
theorem E36_12 : C36_12 = .seq C36_13 C36_14 := rfl
theorem E36_2 : C36_2 = .seq C36_3 C36_12 := rfl
theorem E36_0 : C36_0 = .seq C36_1 C36_2 := rfl
def S36_2s (Q : Int → AW → Prop) (E : List PanicEntry → AW → Prop)  (nx2 : Value → Int → Int → Value → Int → Int → AW → Prop) (r_0 : Value) (k_3 : Int) (n_4 : Int) (t_65 : Value) (t_66 : Int) (t_67 : Int) (aw : AW) : Prop :=
  cnd (decide (t_67 < t_66)) (ixS t_65 t_67 1 fun p2 =>
  ldI .u8 aw p2 fun x14 =>
  nx2 r_0 k_3 (bitsOf .or .u64 (IntKind.u64.wrap (n_4 * 2 ^ (min (8 : Int).toNat IntKind.u64.bits))) (IntKind.u64.wrap x14)) t_65 t_66 (IntKind.i64.wrap (t_67 + 1)) aw) (nck r_0 (fldA r_0 0 fun p17 =>
  ldV aw p17 fun x25 =>
  cutV aw 1 x25 (IntKind.i64.wrap (1 + k_3)) (lenV x25) fun v27 =>
  nck r_0 (fldA r_0 0 fun p30 =>
  st aw p30 [v27] fun aw35 =>
  Q n_4 aw35)))
def S36_2 (Q : Int → AW → Prop) (E : List PanicEntry → AW → Prop)  : Nat → Value → Int → Int → Value → Int → Int → AW → Prop
  | 0 => fun _ _ _ _ _ _ _ => False
  | n + 1 => S36_2s Q E  (S36_2 Q E  n)
def S36_1 (Q : Int → AW → Prop) (E : List PanicEntry → AW → Prop)  (r_0 : Value) (t_22 : Bool) (aw : AW) : Prop :=
  cnd t_22 (CallP prog 63 [r_0] aw sh63 (fun r43 aw44 =>
  Q 0 aw44) E) (nck r_0 (fldA r_0 0 fun p46 =>
  ldV aw p46 fun x54 =>
  ixS x54 0 1 fun p56 =>
  ldI .u8 aw p56 fun x68 =>
  cnd (decide (8 < (IntKind.i64.wrap x68))) (CallP prog 63 [r_0] aw sh63 (fun r72 aw73 =>
  Q 0 aw73) E) (nck r_0 (fldA r_0 0 fun p75 =>
  ldV aw p75 fun x83 =>
  slen x83 fun n85 =>
  cnd (decide (n85 < (IntKind.i64.wrap (1 + (IntKind.i64.wrap x68))))) (CallP prog 63 [r_0] aw sh63 (fun r93 aw94 =>
  Q 0 aw94) E) (cnd (decide (0 < (IntKind.i64.wrap x68))) (nck r_0 (fldA r_0 0 fun p97 =>
  ldV aw p97 fun x105 =>
  ixS x105 1 1 fun p107 =>
  ldI .u8 aw p107 fun x119 =>
  cnd (decide (x119 = 0)) (CallP prog 63 [r_0] aw sh63 (fun r122 aw123 =>
  Q 0 aw123) E) (nck r_0 (fldA r_0 0 fun p125 =>
  ldV aw p125 fun x133 =>
  cutV aw 1 x133 1 (IntKind.i64.wrap (1 + (IntKind.i64.wrap x68))) fun v135 =>
  slen v135 fun n137 =>
  ∃ n, S36_2 Q E  n r_0 (IntKind.i64.wrap x68) 0 v135 n137 0 aw)))) (nck r_0 (fldA r_0 0 fun p145 =>
  ldV aw p145 fun x153 =>
  cutV aw 1 x153 1 (IntKind.i64.wrap (1 + (IntKind.i64.wrap x68))) fun v155 =>
  slen v155 fun n157 =>
  ∃ n, S36_2 Q E  n r_0 (IntKind.i64.wrap x68) 0 v155 n157 0 aw)))))))
def S36_0 (Q : Int → AW → Prop) (E : List PanicEntry → AW → Prop)  (r_0 : Value) (aw : AW) : Prop :=
  nilB (.pointer 116) r_0 (.pointer none) fun q163 =>
  cnd q163 (S36_1 Q E  r_0 true aw) (nck r_0 (fldA r_0 1 fun p168 =>
  ldB aw p168 fun x176 =>
  cnd x176 (S36_1 Q E  r_0 true aw) (nck r_0 (fldA r_0 0 fun p180 =>
  ldV aw p180 fun x188 =>
  slen x188 fun n190 =>
  S36_1 Q E  r_0 (decide (n190 = 0)) aw))))
theorem S36_2s_ok (Q : Int → AW → Prop) (E : List PanicEntry → AW → Prop)  (nx2 : Value → Int → Int → Value → Int → Int → AW → Prop) (L2 : ∀ (ρ : Env) (r_0 : Value) (k_3 : Int) (n_4 : Int) (t_65 : Value) (t_66 : Int) (t_67 : Int) (aw : AW) (h0 : ρ 0 = r_0) (h3 : ρ 3 = .int .i64 k_3) (h4 : ρ 4 = .int .u64 n_4) (h65 : ρ 65 = t_65) (h66 : ρ 66 = .int .i64 t_66) (h67 : ρ 67 = .int .i64 t_67), nx2 r_0 k_3 n_4 t_65 t_66 t_67 aw → AGo prog 88 [.code C36_31, .inLoop C36_31, .inBlock 0, .code C36_43] ρ [] aw (RR prog f36 88 sh36 Q E)) (ρ : Env) (r_0 : Value) (k_3 : Int) (n_4 : Int) (t_65 : Value) (t_66 : Int) (t_67 : Int) (aw : AW) (h0 : ρ 0 = r_0) (h3 : ρ 3 = .int .i64 k_3) (h4 : ρ 4 = .int .u64 n_4) (h65 : ρ 65 = t_65) (h66 : ρ 66 = .int .i64 t_66) (h67 : ρ 67 = .int .i64 t_67) (H : S36_2s Q E  nx2 r_0 k_3 n_4 t_65 t_66 t_67 aw) :
    AGo prog 88 [.code C36_31, .inLoop C36_31, .inBlock 0, .code C36_43] ρ [] aw (RR prog f36 88 sh36 Q E) := by
  unfold S36_2s at H
  refine ago_seqE E36_31 ?_
  refine ago_regE E36_32 (l := [0]) rfl ?_
  refine lk (dt := some 68) R36_10_N rfl rfl rfl (opv_lt rfl rfl rfl h67 h66) ?_
  refine aops_nil ?_
  refine ago_seqE E36_33 ?_
  refine ago_condE  E36_34 rfl rfl (fun hb1 => ?_) (fun hb1 => ?_)
  · replace H := cnd_t H hb1
    refine ago_skipE E36_35 ?_
    refine ago_seqE E36_37 ?_
    refine ago_blockE E36_38 ?_
    refine ago_seqE E36_39 ?_
    refine ago_regE E36_40 (l := [0, 1, 2]) rfl ?_
    obtain ⟨b3, i4, l5, c6, p2, hp7, h08, hj9, hv10, H⟩ := H
    refine lk (dt := some 69) R36_11_N rfl rfl rfl (ov_ixS rfl rfl rfl underlying25 sz5 h65 h67 hp7 h08 hj9 hv10) ?_
    obtain ⟨b11, i12, x14, hp13, hg15, H⟩ := H
    refine lk (dt := some 70) R36_11_N rfl rfl rfl (ov_ldI rfl underlying5 rfl rfl hp13 hg15) ?_
    refine lk (dt := some 6) R36_11_N rfl rfl rfl (opv_assign rfl rfl rfl) ?_
    refine aops_nil ?_
    refine ago_regE E36_41 (l := [0, 1, 2, 3, 4, 5]) rfl ?_
    refine lk (dt := some 71) R36_12_N rfl rfl rfl (opv_move rfl rfl h4) ?_
    refine lk (dt := some 72) R36_12_N rfl rfl rfl (opv_shl rfl rfl rfl rfl rfl (by decide)) ?_
    refine lk (dt := some 73) R36_12_N rfl rfl rfl (opv_move rfl rfl rfl) ?_
    refine lk (dt := some 74) R36_12_N rfl rfl rfl (opv_conv rfl rfl underlying5 underlying24 rfl) ?_
    refine lk (dt := some 75) R36_12_N rfl rfl rfl (opv_or rfl rfl rfl rfl rfl) ?_
    refine lk (dt := some 4) R36_12_N rfl rfl rfl (opv_assign rfl rfl rfl) ?_
    refine aops_nil ?_
    refine ago_inBlock ?_
    refine ago_regE E36_42 (l := [0, 1]) rfl ?_
    refine lk (dt := some 76) R36_13_N rfl rfl rfl (opv_add rfl rfl rfl h67 rfl) ?_
    refine lk (dt := some 67) R36_13_N rfl rfl rfl (opv_move rfl rfl rfl) ?_
    refine aops_nil ?_
    refine ago_inLoop ?_
    exact L2 _ r_0 k_3 (bitsOf .or .u64 (IntKind.u64.wrap (n_4 * 2 ^ (min (8 : Int).toNat IntKind.u64.bits))) (IntKind.u64.wrap x14)) t_65 t_66 (IntKind.i64.wrap (t_67 + 1)) aw h0 h3 rfl h65 h66 rfl H
  · replace H := cnd_f H hb1
    refine ago_exitE E36_36 rfl ?_
    refine ago_seqE E36_43 ?_
    refine ago_regE E36_44 (l := [0, 1, 2, 3, 4, 5, 6, 7, 8, 9, 10]) rfl ?_
    refine lk (dt := some 77) R36_14_N rfl rfl rfl (opv_move rfl rfl h0) ?_
    refine lk (dt := some 78) R36_14_N rfl rfl rfl (opv_move rfl rfl h0) ?_
    obtain ⟨hp16, H⟩ := H
    refine lk (dt := some 79) R36_14_N rfl rfl rfl (ov_nck rfl rfl rfl hp16) ?_
    obtain ⟨b18, i19, p17, hp20, hv21, H⟩ := H
    refine lk (dt := some 80) R36_14_N rfl rfl rfl (ov_fldA rfl rfl underlying116 rfl sz25 (by decide) rfl hp20 rfl hv21) ?_
    obtain ⟨b22, i23, x25, hp24, hg26, H⟩ := H
    refine lk (dt := some 81) R36_14_N rfl rfl rfl (ov_ldV rfl underlying25 rfl rfl rfl hp24 hg26) ?_
    refine lk (dt := some 82) R36_14_N rfl rfl rfl (opv_move rfl rfl h3) ?_
    refine lk (dt := some 83) R36_14_N rfl rfl rfl (opv_add rfl rfl rfl rfl rfl) ?_
    obtain ⟨v27, hq28, H⟩ := H
    refine lk (dt := some 84) R36_14_N rfl rfl rfl (ov_cutV rfl rfl underlying25 sz5 rfl (bndS rfl) (bndN _ _ _) hq28) ?_
    obtain ⟨hp29, H⟩ := H
    refine lk (dt := some 85) R36_14_N rfl rfl rfl (ov_nck rfl rfl rfl hp29) ?_
    obtain ⟨b31, i32, p30, hp33, hv34, H⟩ := H
    refine lk (dt := some 86) R36_14_N rfl rfl rfl (ov_fldA rfl rfl underlying116 rfl sz25 (by decide) rfl hp33 rfl hv34) ?_
    obtain ⟨b36, i37, aw35, hp38, hw39, ho40, ha41, H⟩ := H
    refine lk (dt := none) R36_14_N rfl rfl rfl (ov_st rfl rfl rfl rfl rfl (cells_all ho40) sz25 hp38 hw39 ho40 ha41) ?_
    refine aops_nil ?_
    refine ago_seqE E36_45 ?_
    refine ago_cut (fun ρ => ρ 4 = .int .u64 n_4 ∧ True) ⟨h4, trivial⟩ (fun ρ ⟨h4, _⟩ => ?_)
    refine ago_regE E36_46 (l := [0, 1]) rfl ?_
    refine lk (dt := some 87) R36_15_N rfl rfl rfl (opv_move rfl rfl h4) ?_
    refine lk (dt := some 2) R36_15_N rfl rfl rfl (opv_assign rfl rfl rfl) ?_
    refine aops_nil ?_
    exact ago_retE E36_47 (r := n_4) (ares_1 rfl (oneT rfl)) rfl H
theorem S36_2_ok (Q : Int → AW → Prop) (E : List PanicEntry → AW → Prop)  : ∀ (n : Nat) (ρ : Env) (r_0 : Value) (k_3 : Int) (n_4 : Int) (t_65 : Value) (t_66 : Int) (t_67 : Int) (aw : AW) (h0 : ρ 0 = r_0) (h3 : ρ 3 = .int .i64 k_3) (h4 : ρ 4 = .int .u64 n_4) (h65 : ρ 65 = t_65) (h66 : ρ 66 = .int .i64 t_66) (h67 : ρ 67 = .int .i64 t_67), S36_2 Q E  n r_0 k_3 n_4 t_65 t_66 t_67 aw →
    AGo prog 88 [.code C36_31, .inLoop C36_31, .inBlock 0, .code C36_43] ρ [] aw (RR prog f36 88 sh36 Q E)
  | 0, _, _, _, _, _, _, _, _, _, _, _, _, _, _ => fun H => H.elim
  | n + 1, ρ, r_0, k_3, n_4, t_65, t_66, t_67, aw, h0, h3, h4, h65, h66, h67 => fun H => S36_2s_ok Q E  _ (S36_2_ok Q E  n) ρ r_0 k_3 n_4 t_65 t_66 t_67 aw h0 h3 h4 h65 h66 h67 H
theorem S36_1_ok (Q : Int → AW → Prop) (E : List PanicEntry → AW → Prop)  (ρ : Env) (r_0 : Value) (t_22 : Bool) (aw : AW) (h0 : ρ 0 = r_0) (h22 : ρ 22 = .bool t_22) (H : S36_1 Q E  r_0 t_22 aw) :
    AGo prog 88 [.code C36_5, .code C36_12] ρ [] aw (RR prog f36 88 sh36 Q E) := by
  unfold S36_1 at H
  refine ago_condE  E36_5 rfl h22 (fun hb42 => ?_) (fun hb42 => ?_)
  · replace H := cnd_t H hb42
    refine ago_seqE E36_6 ?_
    refine ago_regE E36_7 (l := [0, 1]) rfl ?_
    refine lk (dt := some 23) R36_2_N rfl rfl rfl (opv_move rfl rfl h0) ?_
    refine lk_call (dt := some 24) R36_2_N rfl rfl rfl (opc_of rfl rfl is63 (ma_cons rfl rfl)) H (fun _ _ h => ⟨rfl, h⟩) fun r43 aw44 H => ?_
    refine aops_nil ?_
    refine ago_seqE E36_8 ?_
    refine ago_regE E36_9 (l := [0]) rfl ?_
    refine lk (dt := some 2) R36_3_N rfl rfl rfl (opv_assign rfl rfl rfl) ?_
    refine aops_nil ?_
    exact ago_retE E36_10 (r := 0) (ares_1 rfl (oneT rfl)) rfl H
  · replace H := cnd_f H hb42
    refine ago_skipE E36_11 ?_
    refine ago_seqE E36_12 ?_
    refine ago_regE E36_13 (l := [0, 1, 2, 3, 4, 5, 6, 7]) rfl ?_
    refine lk (dt := some 25) R36_4_N rfl rfl rfl (opv_move rfl rfl h0) ?_
    obtain ⟨hp45, H⟩ := H
    refine lk (dt := some 26) R36_4_N rfl rfl rfl (ov_nck rfl rfl rfl hp45) ?_
    obtain ⟨b47, i48, p46, hp49, hv50, H⟩ := H
    refine lk (dt := some 27) R36_4_N rfl rfl rfl (ov_fldA rfl rfl underlying116 rfl sz25 (by decide) rfl hp49 rfl hv50) ?_
    obtain ⟨b51, i52, x54, hp53, hg55, H⟩ := H
    refine lk (dt := some 28) R36_4_N rfl rfl rfl (ov_ldV rfl underlying25 rfl rfl rfl hp53 hg55) ?_
    obtain ⟨b57, i58, l59, c60, p56, hp61, h062, hj63, hv64, H⟩ := H
    refine lk (dt := some 29) R36_4_N rfl rfl rfl (ov_ixS rfl rfl rfl underlying25 sz5 rfl rfl hp61 h062 hj63 hv64) ?_
    obtain ⟨b65, i66, x68, hp67, hg69, H⟩ := H
    refine lk (dt := some 30) R36_4_N rfl rfl rfl (ov_ldI rfl underlying5 rfl rfl hp67 hg69) ?_
    refine lk (dt := some 31) R36_4_N rfl rfl rfl (opv_conv rfl rfl underlying5 underlying3 rfl) ?_
    refine lk (dt := some 3) R36_4_N rfl rfl rfl (opv_assign rfl rfl rfl) ?_
    refine aops_nil ?_
    refine ago_seqE E36_14 ?_
    refine ago_seqE E36_15 ?_
    refine ago_regE E36_16 (l := [0, 1, 2, 3, 4, 5, 6, 7, 8, 9, 10, 11, 12, 13, 14, 15, 16, 17, 18, 19, 20, 21, 22, 23, 24]) rfl ?_
    refine lk (dt := some 32) R36_5_N rfl rfl rfl (opv_move rfl rfl rfl) ?_
    refine lk (dt := some 33) R36_5_N rfl rfl rfl (opv_gt rfl rfl rfl rfl rfl) ?_
    refine lk (dt := some 34) R36_5_N rfl rfl rfl (opv_move rfl rfl rfl) ?_
    rcases Bool.eq_false_or_eq_true (decide (8 < (IntKind.i64.wrap x68))) with hb70 | hb70
    · replace H := cnd_t H hb70
      refine lk_skip (dt := some 35) R36_5_N rfl rfl ⟨_, rfl, .inl ⟨_, rfl, gq hb70 rfl⟩⟩ ?_
      refine lk_skip (dt := some 36) R36_5_N rfl rfl ⟨_, rfl, .inl ⟨_, rfl, gq hb70 rfl⟩⟩ ?_
      refine lk_skip (dt := some 37) R36_5_N rfl rfl ⟨_, rfl, .inl ⟨_, rfl, gq hb70 rfl⟩⟩ ?_
      refine lk_skip (dt := some 38) R36_5_N rfl rfl ⟨_, rfl, .inl ⟨_, rfl, gq hb70 rfl⟩⟩ ?_
      refine lk_skip (dt := some 39) R36_5_N rfl rfl ⟨_, rfl, .inl ⟨_, rfl, gq hb70 rfl⟩⟩ ?_
      refine lk_skip (dt := some 40) R36_5_N rfl rfl ⟨_, rfl, .inl ⟨_, rfl, gq hb70 rfl⟩⟩ ?_
      refine lk_skip (dt := some 41) R36_5_N rfl rfl ⟨_, rfl, .inl ⟨_, rfl, gq hb70 rfl⟩⟩ ?_
      refine lk_skip (dt := some 42) R36_5_N rfl rfl ⟨_, rfl, .inl ⟨_, rfl, gq hb70 rfl⟩⟩ ?_
      refine lk (dt := some 43) R36_5_N rfl rfl rfl (ov_pickT rfl rfl rfl rfl rfl hb70 rfl) ?_
      refine lk (dt := some 44) R36_5_N rfl rfl rfl (opv_move rfl rfl rfl) ?_
      refine lk_skip (dt := some 45) R36_5_N rfl rfl ⟨_, rfl, .inl ⟨_, rfl, gq rfl rfl⟩⟩ ?_
      refine lk_skip (dt := some 46) R36_5_N rfl rfl ⟨_, rfl, .inl ⟨_, rfl, gq rfl rfl⟩⟩ ?_
      refine lk_skip (dt := some 47) R36_5_N rfl rfl ⟨_, rfl, .inl ⟨_, rfl, gq rfl rfl⟩⟩ ?_
      refine lk_skip (dt := some 48) R36_5_N rfl rfl ⟨_, rfl, .inr ⟨rfl, rfl⟩⟩ ?_
      refine lk_skip (dt := some 49) R36_5_N rfl rfl ⟨_, rfl, .inr ⟨rfl, rfl⟩⟩ ?_
      refine lk_skip (dt := some 50) R36_5_N rfl rfl ⟨_, rfl, .inr ⟨rfl, rfl⟩⟩ ?_
      refine lk_skip (dt := some 51) R36_5_N rfl rfl ⟨_, rfl, .inr ⟨rfl, rfl⟩⟩ ?_
      refine lk_skip (dt := some 52) R36_5_N rfl rfl ⟨_, rfl, .inr ⟨rfl, rfl⟩⟩ ?_
      refine lk_skip (dt := some 53) R36_5_N rfl rfl ⟨_, rfl, .inr ⟨rfl, rfl⟩⟩ ?_
      refine lk_skip (dt := some 54) R36_5_N rfl rfl ⟨_, rfl, .inr ⟨rfl, rfl⟩⟩ ?_
      refine lk_skip (dt := some 55) R36_5_N rfl rfl ⟨_, rfl, .inl ⟨_, rfl, gq rfl rfl⟩⟩ ?_
      refine lk (dt := some 56) R36_5_N rfl rfl rfl (ov_pickT rfl rfl rfl rfl rfl rfl rfl) ?_
      refine aops_nil ?_
      refine ago_condE  E36_17 rfl rfl (fun h => ?_) (fun h => tf h)
      refine ago_seqE E36_18 ?_
      refine ago_cut (fun ρ => ρ 0 = r_0 ∧ True) ⟨h0, trivial⟩ (fun ρ ⟨h0, _⟩ => ?_)
      refine ago_regE E36_19 (l := [0, 1]) rfl ?_
      refine lk (dt := some 57) R36_6_N rfl rfl rfl (opv_move rfl rfl h0) ?_
      refine lk_call (dt := some 58) R36_6_N rfl rfl rfl (opc_of rfl rfl is63 (ma_cons rfl rfl)) H (fun _ _ h => ⟨rfl, h⟩) fun r72 aw73 H => ?_
      refine aops_nil ?_
      refine ago_seqE E36_20 ?_
      refine ago_regE E36_21 (l := [0]) rfl ?_
      refine lk (dt := some 2) R36_7_N rfl rfl rfl (opv_assign rfl rfl rfl) ?_
      refine aops_nil ?_
      exact ago_retE E36_22 (r := 0) (ares_1 rfl (oneT rfl)) rfl H
    · replace H := cnd_f H hb70
      refine lk (dt := some 35) R36_5_N rfl rfl ⟨_, rfl, .inl ⟨_, rfl, gq hb70 rfl⟩⟩ (opv_move rfl rfl h0) ?_
      obtain ⟨hp74, H⟩ := H
      refine lk (dt := some 36) R36_5_N rfl rfl ⟨_, rfl, .inl ⟨_, rfl, gq hb70 rfl⟩⟩ (ov_nck rfl rfl rfl hp74) ?_
      obtain ⟨b76, i77, p75, hp78, hv79, H⟩ := H
      refine lk (dt := some 37) R36_5_N rfl rfl ⟨_, rfl, .inl ⟨_, rfl, gq hb70 rfl⟩⟩ (ov_fldA rfl rfl underlying116 rfl sz25 (by decide) rfl hp78 rfl hv79) ?_
      obtain ⟨b80, i81, x83, hp82, hg84, H⟩ := H
      refine lk (dt := some 38) R36_5_N rfl rfl ⟨_, rfl, .inl ⟨_, rfl, gq hb70 rfl⟩⟩ (ov_ldV rfl underlying25 rfl rfl rfl hp82 hg84) ?_
      obtain ⟨q86, l87, c88, n85, hv89, hn90, H⟩ := H
      refine lk (dt := some 39) R36_5_N rfl rfl ⟨_, rfl, .inl ⟨_, rfl, gq hb70 rfl⟩⟩ (ov_len rfl rfl rfl underlying25 rfl hv89 hn90) ?_
      refine lk (dt := some 40) R36_5_N rfl rfl ⟨_, rfl, .inl ⟨_, rfl, gq hb70 rfl⟩⟩ (opv_move rfl rfl rfl) ?_
      refine lk (dt := some 41) R36_5_N rfl rfl ⟨_, rfl, .inl ⟨_, rfl, gq hb70 rfl⟩⟩ (opv_add rfl rfl rfl rfl rfl) ?_
      refine lk (dt := some 42) R36_5_N rfl rfl ⟨_, rfl, .inl ⟨_, rfl, gq hb70 rfl⟩⟩ (opv_lt rfl rfl rfl rfl rfl) ?_
      refine lk (dt := some 43) R36_5_N rfl rfl rfl (ov_pickF rfl rfl rfl rfl rfl hb70 rfl) ?_
      refine lk (dt := some 44) R36_5_N rfl rfl rfl (opv_move rfl rfl rfl) ?_
      rcases Bool.eq_false_or_eq_true (decide (n85 < (IntKind.i64.wrap (1 + (IntKind.i64.wrap x68))))) with hb91 | hb91
      · replace H := cnd_t H hb91
        refine lk_skip (dt := some 45) R36_5_N rfl rfl ⟨_, rfl, .inl ⟨_, rfl, gq hb91 rfl⟩⟩ ?_
        refine lk_skip (dt := some 46) R36_5_N rfl rfl ⟨_, rfl, .inl ⟨_, rfl, gq hb91 rfl⟩⟩ ?_
        refine lk_skip (dt := some 47) R36_5_N rfl rfl ⟨_, rfl, .inl ⟨_, rfl, gq hb91 rfl⟩⟩ ?_
        refine lk_skip (dt := some 48) R36_5_N rfl rfl ⟨_, rfl, .inr ⟨rfl, rfl⟩⟩ ?_
        refine lk_skip (dt := some 49) R36_5_N rfl rfl ⟨_, rfl, .inr ⟨rfl, rfl⟩⟩ ?_
        refine lk_skip (dt := some 50) R36_5_N rfl rfl ⟨_, rfl, .inr ⟨rfl, rfl⟩⟩ ?_
        refine lk_skip (dt := some 51) R36_5_N rfl rfl ⟨_, rfl, .inr ⟨rfl, rfl⟩⟩ ?_
        refine lk_skip (dt := some 52) R36_5_N rfl rfl ⟨_, rfl, .inr ⟨rfl, rfl⟩⟩ ?_
        refine lk_skip (dt := some 53) R36_5_N rfl rfl ⟨_, rfl, .inr ⟨rfl, rfl⟩⟩ ?_
        refine lk_skip (dt := some 54) R36_5_N rfl rfl ⟨_, rfl, .inr ⟨rfl, rfl⟩⟩ ?_
        refine lk_skip (dt := some 55) R36_5_N rfl rfl ⟨_, rfl, .inl ⟨_, rfl, gq hb91 rfl⟩⟩ ?_
        refine lk (dt := some 56) R36_5_N rfl rfl rfl (ov_pickT rfl rfl rfl rfl rfl hb91 rfl) ?_
        refine aops_nil ?_
        refine ago_condE  E36_17 rfl rfl (fun h => ?_) (fun h => tf h)
        refine ago_seqE E36_18 ?_
        refine ago_cut (fun ρ => ρ 0 = r_0 ∧ True) ⟨h0, trivial⟩ (fun ρ ⟨h0, _⟩ => ?_)
        refine ago_regE E36_19 (l := [0, 1]) rfl ?_
        refine lk (dt := some 57) R36_6_N rfl rfl rfl (opv_move rfl rfl h0) ?_
        refine lk_call (dt := some 58) R36_6_N rfl rfl rfl (opc_of rfl rfl is63 (ma_cons rfl rfl)) H (fun _ _ h => ⟨rfl, h⟩) fun r93 aw94 H => ?_
        refine aops_nil ?_
        refine ago_seqE E36_20 ?_
        refine ago_regE E36_21 (l := [0]) rfl ?_
        refine lk (dt := some 2) R36_7_N rfl rfl rfl (opv_assign rfl rfl rfl) ?_
        refine aops_nil ?_
        exact ago_retE E36_22 (r := 0) (ares_1 rfl (oneT rfl)) rfl H
      · replace H := cnd_f H hb91
        refine lk (dt := some 45) R36_5_N rfl rfl ⟨_, rfl, .inl ⟨_, rfl, gq hb91 rfl⟩⟩ (opv_move rfl rfl rfl) ?_
        refine lk (dt := some 46) R36_5_N rfl rfl ⟨_, rfl, .inl ⟨_, rfl, gq hb91 rfl⟩⟩ (opv_gt rfl rfl rfl rfl rfl) ?_
        refine lk (dt := some 47) R36_5_N rfl rfl ⟨_, rfl, .inl ⟨_, rfl, gq hb91 rfl⟩⟩ (opv_move rfl rfl rfl) ?_
        rcases Bool.eq_false_or_eq_true (decide (0 < (IntKind.i64.wrap x68))) with hb95 | hb95
        · replace H := cnd_t H hb95
          refine lk (dt := some 48) R36_5_N rfl rfl ⟨_, rfl, .inl ⟨_, rfl, gq hb95 rfl⟩⟩ (opv_move rfl rfl h0) ?_
          obtain ⟨hp96, H⟩ := H
          refine lk (dt := some 49) R36_5_N rfl rfl ⟨_, rfl, .inl ⟨_, rfl, gq hb95 rfl⟩⟩ (ov_nck rfl rfl rfl hp96) ?_
          obtain ⟨b98, i99, p97, hp100, hv101, H⟩ := H
          refine lk (dt := some 50) R36_5_N rfl rfl ⟨_, rfl, .inl ⟨_, rfl, gq hb95 rfl⟩⟩ (ov_fldA rfl rfl underlying116 rfl sz25 (by decide) rfl hp100 rfl hv101) ?_
          obtain ⟨b102, i103, x105, hp104, hg106, H⟩ := H
          refine lk (dt := some 51) R36_5_N rfl rfl ⟨_, rfl, .inl ⟨_, rfl, gq hb95 rfl⟩⟩ (ov_ldV rfl underlying25 rfl rfl rfl hp104 hg106) ?_
          obtain ⟨b108, i109, l110, c111, p107, hp112, h0113, hj114, hv115, H⟩ := H
          refine lk (dt := some 52) R36_5_N rfl rfl ⟨_, rfl, .inl ⟨_, rfl, gq hb95 rfl⟩⟩ (ov_ixS rfl rfl rfl underlying25 sz5 rfl rfl hp112 h0113 hj114 hv115) ?_
          obtain ⟨b116, i117, x119, hp118, hg120, H⟩ := H
          refine lk (dt := some 53) R36_5_N rfl rfl ⟨_, rfl, .inl ⟨_, rfl, gq hb95 rfl⟩⟩ (ov_ldI rfl underlying5 rfl rfl hp118 hg120) ?_
          refine lk (dt := some 54) R36_5_N rfl rfl ⟨_, rfl, .inl ⟨_, rfl, gq hb95 rfl⟩⟩ (opv_eqI rfl rfl rfl rfl rfl) ?_
          refine lk (dt := some 55) R36_5_N rfl rfl ⟨_, rfl, .inl ⟨_, rfl, gq hb91 rfl⟩⟩ (ov_pickT rfl rfl rfl rfl rfl hb95 rfl) ?_
          refine lk (dt := some 56) R36_5_N rfl rfl rfl (ov_pickF rfl rfl rfl rfl rfl hb91 rfl) ?_
          refine aops_nil ?_
          refine ago_condE  E36_17 rfl rfl (fun hb121 => ?_) (fun hb121 => ?_)
          · replace H := cnd_t H hb121
            refine ago_seqE E36_18 ?_
            refine ago_cut (fun ρ => ρ 0 = r_0 ∧ True) ⟨h0, trivial⟩ (fun ρ ⟨h0, _⟩ => ?_)
            refine ago_regE E36_19 (l := [0, 1]) rfl ?_
            refine lk (dt := some 57) R36_6_N rfl rfl rfl (opv_move rfl rfl h0) ?_
            refine lk_call (dt := some 58) R36_6_N rfl rfl rfl (opc_of rfl rfl is63 (ma_cons rfl rfl)) H (fun _ _ h => ⟨rfl, h⟩) fun r122 aw123 H => ?_
            refine aops_nil ?_
            refine ago_seqE E36_20 ?_
            refine ago_regE E36_21 (l := [0]) rfl ?_
            refine lk (dt := some 2) R36_7_N rfl rfl rfl (opv_assign rfl rfl rfl) ?_
            refine aops_nil ?_
            exact ago_retE E36_22 (r := 0) (ares_1 rfl (oneT rfl)) rfl H
          · replace H := cnd_f H hb121
            refine ago_skipE E36_23 ?_
            refine ago_seqE E36_24 ?_
            refine ago_cut (fun ρ => ρ 0 = r_0 ∧ ρ 3 = .int .i64 (IntKind.i64.wrap x68) ∧ True) ⟨h0, rfl, trivial⟩ (fun ρ ⟨h0, h3, _⟩ => ?_)
            refine ago_regE E36_25 (l := [0]) rfl ?_
            refine lk (dt := some 4) R36_8_N rfl rfl rfl (opv_assign rfl rfl rfl) ?_
            refine aops_nil ?_
            refine ago_seqE E36_26 ?_
            refine ago_seqE E36_27 ?_
            refine ago_regE E36_28 (l := [0, 1, 2, 3, 4, 5, 6, 7, 8]) rfl ?_
            refine lk (dt := some 59) R36_9_N rfl rfl rfl (opv_move rfl rfl h0) ?_
            obtain ⟨hp124, H⟩ := H
            refine lk (dt := some 60) R36_9_N rfl rfl rfl (ov_nck rfl rfl rfl hp124) ?_
            obtain ⟨b126, i127, p125, hp128, hv129, H⟩ := H
            refine lk (dt := some 61) R36_9_N rfl rfl rfl (ov_fldA rfl rfl underlying116 rfl sz25 (by decide) rfl hp128 rfl hv129) ?_
            obtain ⟨b130, i131, x133, hp132, hg134, H⟩ := H
            refine lk (dt := some 62) R36_9_N rfl rfl rfl (ov_ldV rfl underlying25 rfl rfl rfl hp132 hg134) ?_
            refine lk (dt := some 63) R36_9_N rfl rfl rfl (opv_move rfl rfl h3) ?_
            refine lk (dt := some 64) R36_9_N rfl rfl rfl (opv_add rfl rfl rfl rfl rfl) ?_
            obtain ⟨v135, hq136, H⟩ := H
            refine lk (dt := some 65) R36_9_N rfl rfl rfl (ov_cutV rfl rfl underlying25 sz5 rfl (bndS rfl) (bndS rfl) hq136) ?_
            obtain ⟨q138, l139, c140, n137, hv141, hn142, H⟩ := H
            refine lk (dt := some 66) R36_9_N rfl rfl rfl (ov_len rfl rfl rfl underlying25 rfl hv141 hn142) ?_
            refine lk (dt := some 67) R36_9_N rfl rfl rfl (opv_move rfl rfl rfl) ?_
            refine aops_nil ?_
            refine ago_blockE E36_29 ?_
            refine ago_loopE E36_30 ?_
            obtain ⟨n, H⟩ := H
            exact S36_2_ok Q E  n _ r_0 (IntKind.i64.wrap x68) 0 v135 n137 0 aw h0 h3 rfl rfl rfl rfl H
        · replace H := cnd_f H hb95
          refine lk_skip (dt := some 48) R36_5_N rfl rfl ⟨_, rfl, .inl ⟨_, rfl, gq hb95 rfl⟩⟩ ?_
          refine lk_skip (dt := some 49) R36_5_N rfl rfl ⟨_, rfl, .inl ⟨_, rfl, gq hb95 rfl⟩⟩ ?_
          refine lk_skip (dt := some 50) R36_5_N rfl rfl ⟨_, rfl, .inl ⟨_, rfl, gq hb95 rfl⟩⟩ ?_
          refine lk_skip (dt := some 51) R36_5_N rfl rfl ⟨_, rfl, .inl ⟨_, rfl, gq hb95 rfl⟩⟩ ?_
          refine lk_skip (dt := some 52) R36_5_N rfl rfl ⟨_, rfl, .inl ⟨_, rfl, gq hb95 rfl⟩⟩ ?_
          refine lk_skip (dt := some 53) R36_5_N rfl rfl ⟨_, rfl, .inl ⟨_, rfl, gq hb95 rfl⟩⟩ ?_
          refine lk_skip (dt := some 54) R36_5_N rfl rfl ⟨_, rfl, .inl ⟨_, rfl, gq hb95 rfl⟩⟩ ?_
          refine lk (dt := some 55) R36_5_N rfl rfl ⟨_, rfl, .inl ⟨_, rfl, gq hb91 rfl⟩⟩ (ov_pickF rfl rfl rfl rfl rfl hb95 rfl) ?_
          refine lk (dt := some 56) R36_5_N rfl rfl rfl (ov_pickF rfl rfl rfl rfl rfl hb91 rfl) ?_
          refine aops_nil ?_
          refine ago_condE  E36_17 rfl rfl (fun h => ft h) (fun h => ?_)
          refine ago_skipE E36_23 ?_
          refine ago_seqE E36_24 ?_
          refine ago_cut (fun ρ => ρ 0 = r_0 ∧ ρ 3 = .int .i64 (IntKind.i64.wrap x68) ∧ True) ⟨h0, rfl, trivial⟩ (fun ρ ⟨h0, h3, _⟩ => ?_)
          refine ago_regE E36_25 (l := [0]) rfl ?_
          refine lk (dt := some 4) R36_8_N rfl rfl rfl (opv_assign rfl rfl rfl) ?_
          refine aops_nil ?_
          refine ago_seqE E36_26 ?_
          refine ago_seqE E36_27 ?_
          refine ago_regE E36_28 (l := [0, 1, 2, 3, 4, 5, 6, 7, 8]) rfl ?_
          refine lk (dt := some 59) R36_9_N rfl rfl rfl (opv_move rfl rfl h0) ?_
          obtain ⟨hp144, H⟩ := H
          refine lk (dt := some 60) R36_9_N rfl rfl rfl (ov_nck rfl rfl rfl hp144) ?_
          obtain ⟨b146, i147, p145, hp148, hv149, H⟩ := H
          refine lk (dt := some 61) R36_9_N rfl rfl rfl (ov_fldA rfl rfl underlying116 rfl sz25 (by decide) rfl hp148 rfl hv149) ?_
          obtain ⟨b150, i151, x153, hp152, hg154, H⟩ := H
          refine lk (dt := some 62) R36_9_N rfl rfl rfl (ov_ldV rfl underlying25 rfl rfl rfl hp152 hg154) ?_
          refine lk (dt := some 63) R36_9_N rfl rfl rfl (opv_move rfl rfl h3) ?_
          refine lk (dt := some 64) R36_9_N rfl rfl rfl (opv_add rfl rfl rfl rfl rfl) ?_
          obtain ⟨v155, hq156, H⟩ := H
          refine lk (dt := some 65) R36_9_N rfl rfl rfl (ov_cutV rfl rfl underlying25 sz5 rfl (bndS rfl) (bndS rfl) hq156) ?_
          obtain ⟨q158, l159, c160, n157, hv161, hn162, H⟩ := H
          refine lk (dt := some 66) R36_9_N rfl rfl rfl (ov_len rfl rfl rfl underlying25 rfl hv161 hn162) ?_
          refine lk (dt := some 67) R36_9_N rfl rfl rfl (opv_move rfl rfl rfl) ?_
          refine aops_nil ?_
          refine ago_blockE E36_29 ?_
          refine ago_loopE E36_30 ?_
          obtain ⟨n, H⟩ := H
          exact S36_2_ok Q E  n _ r_0 (IntKind.i64.wrap x68) 0 v155 n157 0 aw h0 h3 rfl rfl rfl rfl H
theorem S36_0_ok (Q : Int → AW → Prop) (E : List PanicEntry → AW → Prop)  (ρ : Env) (r_0 : Value) (aw : AW) (h0 : ρ 0 = r_0) (H : S36_0 Q E  r_0 aw) :
    AGo prog 88 [.code C36_0] ρ [] aw (RR prog f36 88 sh36 Q E) := by
  unfold S36_0 at H
  refine ago_seqE E36_0 ?_
  refine ago_regE E36_1 (l := [0]) rfl ?_
  refine lk (dt := some 2) R36_0_N rfl rfl rfl (opv_assign rfl rfl rfl) ?_
  refine aops_nil ?_
  refine ago_seqE E36_2 ?_
  refine ago_seqE E36_3 ?_
  refine ago_regE E36_4 (l := [0, 1, 2, 3, 4, 5, 6, 7, 8, 9, 10, 11, 12, 13, 14, 15]) rfl ?_
  refine lk (dt := some 7) R36_1_N rfl rfl rfl (opv_move rfl rfl h0) ?_
  obtain ⟨q163, hf164, hq165, H⟩ := H
  refine lk (dt := some 8) R36_1_N rfl rfl rfl (ov_eqNil rfl rfl underlying85 rfl hf164 hq165) ?_
  refine lk (dt := some 9) R36_1_N rfl rfl rfl (opv_move rfl rfl rfl) ?_
  rcases Bool.eq_false_or_eq_true q163 with hb166 | hb166
  · replace H := cnd_t H hb166
    refine lk_skip (dt := some 10) R36_1_N rfl rfl ⟨_, rfl, .inl ⟨_, rfl, gq hb166 rfl⟩⟩ ?_
    refine lk_skip (dt := some 11) R36_1_N rfl rfl ⟨_, rfl, .inl ⟨_, rfl, gq hb166 rfl⟩⟩ ?_
    refine lk_skip (dt := some 12) R36_1_N rfl rfl ⟨_, rfl, .inl ⟨_, rfl, gq hb166 rfl⟩⟩ ?_
    refine lk_skip (dt := some 13) R36_1_N rfl rfl ⟨_, rfl, .inl ⟨_, rfl, gq hb166 rfl⟩⟩ ?_
    refine lk (dt := some 14) R36_1_N rfl rfl rfl (ov_pickT rfl rfl rfl rfl rfl hb166 rfl) ?_
    refine lk (dt := some 15) R36_1_N rfl rfl rfl (opv_move rfl rfl rfl) ?_
    refine lk_skip (dt := some 16) R36_1_N rfl rfl ⟨_, rfl, .inl ⟨_, rfl, gq rfl rfl⟩⟩ ?_
    refine lk_skip (dt := some 17) R36_1_N rfl rfl ⟨_, rfl, .inl ⟨_, rfl, gq rfl rfl⟩⟩ ?_
    refine lk_skip (dt := some 18) R36_1_N rfl rfl ⟨_, rfl, .inl ⟨_, rfl, gq rfl rfl⟩⟩ ?_
    refine lk_skip (dt := some 19) R36_1_N rfl rfl ⟨_, rfl, .inl ⟨_, rfl, gq rfl rfl⟩⟩ ?_
    refine lk_skip (dt := some 20) R36_1_N rfl rfl ⟨_, rfl, .inl ⟨_, rfl, gq rfl rfl⟩⟩ ?_
    refine lk_skip (dt := some 21) R36_1_N rfl rfl ⟨_, rfl, .inl ⟨_, rfl, gq rfl rfl⟩⟩ ?_
    refine lk (dt := some 22) R36_1_N rfl rfl rfl (ov_pickT rfl rfl rfl rfl rfl rfl rfl) ?_
    refine aops_nil ?_
    exact S36_1_ok Q E  _ r_0 true aw h0 rfl H
  · replace H := cnd_f H hb166
    refine lk (dt := some 10) R36_1_N rfl rfl ⟨_, rfl, .inl ⟨_, rfl, gq hb166 rfl⟩⟩ (opv_move rfl rfl h0) ?_
    obtain ⟨hp167, H⟩ := H
    refine lk (dt := some 11) R36_1_N rfl rfl ⟨_, rfl, .inl ⟨_, rfl, gq hb166 rfl⟩⟩ (ov_nck rfl rfl rfl hp167) ?_
    obtain ⟨b169, i170, p168, hp171, hv172, H⟩ := H
    refine lk (dt := some 12) R36_1_N rfl rfl ⟨_, rfl, .inl ⟨_, rfl, gq hb166 rfl⟩⟩ (ov_fldA rfl rfl underlying116 rfl sz4 (by decide) rfl hp171 rfl hv172) ?_
    obtain ⟨b173, i174, x176, hp175, hg177, H⟩ := H
    refine lk (dt := some 13) R36_1_N rfl rfl ⟨_, rfl, .inl ⟨_, rfl, gq hb166 rfl⟩⟩ (ov_ldB rfl underlying4 rfl rfl hp175 hg177) ?_
    refine lk (dt := some 14) R36_1_N rfl rfl rfl (ov_pickF rfl rfl rfl rfl rfl hb166 rfl) ?_
    refine lk (dt := some 15) R36_1_N rfl rfl rfl (opv_move rfl rfl rfl) ?_
    rcases Bool.eq_false_or_eq_true x176 with hb178 | hb178
    · replace H := cnd_t H hb178
      refine lk_skip (dt := some 16) R36_1_N rfl rfl ⟨_, rfl, .inl ⟨_, rfl, gq hb178 rfl⟩⟩ ?_
      refine lk_skip (dt := some 17) R36_1_N rfl rfl ⟨_, rfl, .inl ⟨_, rfl, gq hb178 rfl⟩⟩ ?_
      refine lk_skip (dt := some 18) R36_1_N rfl rfl ⟨_, rfl, .inl ⟨_, rfl, gq hb178 rfl⟩⟩ ?_
      refine lk_skip (dt := some 19) R36_1_N rfl rfl ⟨_, rfl, .inl ⟨_, rfl, gq hb178 rfl⟩⟩ ?_
      refine lk_skip (dt := some 20) R36_1_N rfl rfl ⟨_, rfl, .inl ⟨_, rfl, gq hb178 rfl⟩⟩ ?_
      refine lk_skip (dt := some 21) R36_1_N rfl rfl ⟨_, rfl, .inl ⟨_, rfl, gq hb178 rfl⟩⟩ ?_
      refine lk (dt := some 22) R36_1_N rfl rfl rfl (ov_pickT rfl rfl rfl rfl rfl hb178 rfl) ?_
      refine aops_nil ?_
      exact S36_1_ok Q E  _ r_0 true aw h0 rfl H
    · replace H := cnd_f H hb178
      refine lk (dt := some 16) R36_1_N rfl rfl ⟨_, rfl, .inl ⟨_, rfl, gq hb178 rfl⟩⟩ (opv_move rfl rfl h0) ?_
      obtain ⟨hp179, H⟩ := H
      refine lk (dt := some 17) R36_1_N rfl rfl ⟨_, rfl, .inl ⟨_, rfl, gq hb178 rfl⟩⟩ (ov_nck rfl rfl rfl hp179) ?_
      obtain ⟨b181, i182, p180, hp183, hv184, H⟩ := H
      refine lk (dt := some 18) R36_1_N rfl rfl ⟨_, rfl, .inl ⟨_, rfl, gq hb178 rfl⟩⟩ (ov_fldA rfl rfl underlying116 rfl sz25 (by decide) rfl hp183 rfl hv184) ?_
      obtain ⟨b185, i186, x188, hp187, hg189, H⟩ := H
      refine lk (dt := some 19) R36_1_N rfl rfl ⟨_, rfl, .inl ⟨_, rfl, gq hb178 rfl⟩⟩ (ov_ldV rfl underlying25 rfl rfl rfl hp187 hg189) ?_
      obtain ⟨q191, l192, c193, n190, hv194, hn195, H⟩ := H
      refine lk (dt := some 20) R36_1_N rfl rfl ⟨_, rfl, .inl ⟨_, rfl, gq hb178 rfl⟩⟩ (ov_len rfl rfl rfl underlying25 rfl hv194 hn195) ?_
      refine lk (dt := some 21) R36_1_N rfl rfl ⟨_, rfl, .inl ⟨_, rfl, gq hb178 rfl⟩⟩ (opv_eqI rfl rfl rfl rfl rfl) ?_
      refine lk (dt := some 22) R36_1_N rfl rfl rfl (ov_pickF rfl rfl rfl rfl rfl hb178 rfl) ?_
      refine aops_nil ?_
      exact S36_1_ok Q E  _ r_0 (decide (n190 = 0)) aw h0 rfl H
theorem F36_ok {Q : Int → AW → Prop} {E : List PanicEntry → AW → Prop} (r_0 : Value) (aw : AW) (H : S36_0 Q E r_0 aw) : CallP prog 36 [r_0] aw sh36 Q E :=
  callP_of func36 C36_is rfl (Nat.le_of_ble_eq_true rfl) (S36_0_ok Q E _ r_0 aw rfl H)
def C37_0 : Code := bodyOf f37
theorem C37_is : f37.body = some C37_0 := by kernel_rfl
def C37_1 : Code := cl C37_0
def R37_0 : Array Oper := regOps C37_1
def C37_2 : Code := cr C37_0
def C37_3 : Code := cl C37_2
def R37_1 : Array Oper := regOps C37_3
def C37_4 : Code := cr C37_2
theorem R37_0_N : dstsOk 11 R37_0 = true := by decide +kernel
theorem E37_1 : C37_1 = .region 0 R37_0 false := rfl
theorem R37_1_N : dstsOk 11 R37_1 = true := by decide +kernel
theorem E37_3 : C37_3 = .region 1 R37_1 false := rfl
theorem E37_4 : C37_4 = .ret := rfl
theorem E37_2 : C37_2 = .seq C37_3 C37_4 := rfl
theorem E37_0 : C37_0 = .seq C37_1 C37_2 := rfl
def S37_0 (Q : Bool → AW → Prop) (E : List PanicEntry → AW → Prop)  (r_0 : Value) (aw : AW) : Prop :=
  nilB (.pointer 116) r_0 (.pointer none) fun q1 =>
  cnd q1 (Q true aw) (nck r_0 (fldA r_0 1 fun p6 =>
  ldB aw p6 fun x14 =>
  Q x14 aw))
theorem S37_0_ok (Q : Bool → AW → Prop) (E : List PanicEntry → AW → Prop)  (ρ : Env) (r_0 : Value) (aw : AW) (h0 : ρ 0 = r_0) (H : S37_0 Q E  r_0 aw) :
    AGo prog 11 [.code C37_0] ρ [] aw (RR prog f37 11 sh37 Q E) := by
  unfold S37_0 at H
  refine ago_seqE E37_0 ?_
  refine ago_regE E37_1 (l := [0]) rfl ?_
  refine lk (dt := some 2) R37_0_N rfl rfl rfl (opv_assign rfl rfl rfl) ?_
  refine aops_nil ?_
  refine ago_seqE E37_2 ?_
  refine ago_regE E37_3 (l := [0, 1, 2, 3, 4, 5, 6, 7, 8]) rfl ?_
  refine lk (dt := some 3) R37_1_N rfl rfl rfl (opv_move rfl rfl h0) ?_
  obtain ⟨q1, hf2, hq3, H⟩ := H
  refine lk (dt := some 4) R37_1_N rfl rfl rfl (ov_eqNil rfl rfl underlying85 rfl hf2 hq3) ?_
  refine lk (dt := some 5) R37_1_N rfl rfl rfl (opv_move rfl rfl rfl) ?_
  rcases Bool.eq_false_or_eq_true q1 with hb4 | hb4
  · replace H := cnd_t H hb4
    refine lk_skip (dt := some 6) R37_1_N rfl rfl ⟨_, rfl, .inl ⟨_, rfl, gq hb4 rfl⟩⟩ ?_
    refine lk_skip (dt := some 7) R37_1_N rfl rfl ⟨_, rfl, .inl ⟨_, rfl, gq hb4 rfl⟩⟩ ?_
    refine lk_skip (dt := some 8) R37_1_N rfl rfl ⟨_, rfl, .inl ⟨_, rfl, gq hb4 rfl⟩⟩ ?_
    refine lk_skip (dt := some 9) R37_1_N rfl rfl ⟨_, rfl, .inl ⟨_, rfl, gq hb4 rfl⟩⟩ ?_
    refine lk (dt := some 10) R37_1_N rfl rfl rfl (ov_pickT rfl rfl rfl rfl rfl hb4 rfl) ?_
    refine lk (dt := some 2) R37_1_N rfl rfl rfl (opv_assign rfl rfl rfl) ?_
    refine aops_nil ?_
    exact ago_retE E37_4 (r := true) (ares_1 rfl (oneT rfl)) rfl H
  · replace H := cnd_f H hb4
    refine lk (dt := some 6) R37_1_N rfl rfl ⟨_, rfl, .inl ⟨_, rfl, gq hb4 rfl⟩⟩ (opv_move rfl rfl h0) ?_
    obtain ⟨hp5, H⟩ := H
    refine lk (dt := some 7) R37_1_N rfl rfl ⟨_, rfl, .inl ⟨_, rfl, gq hb4 rfl⟩⟩ (ov_nck rfl rfl rfl hp5) ?_
    obtain ⟨b7, i8, p6, hp9, hv10, H⟩ := H
    refine lk (dt := some 8) R37_1_N rfl rfl ⟨_, rfl, .inl ⟨_, rfl, gq hb4 rfl⟩⟩ (ov_fldA rfl rfl underlying116 rfl sz4 (by decide) rfl hp9 rfl hv10) ?_
    obtain ⟨b11, i12, x14, hp13, hg15, H⟩ := H
    refine lk (dt := some 9) R37_1_N rfl rfl ⟨_, rfl, .inl ⟨_, rfl, gq hb4 rfl⟩⟩ (ov_ldB rfl underlying4 rfl rfl hp13 hg15) ?_
    refine lk (dt := some 10) R37_1_N rfl rfl rfl (ov_pickF rfl rfl rfl rfl rfl hb4 rfl) ?_
    refine lk (dt := some 2) R37_1_N rfl rfl rfl (opv_assign rfl rfl rfl) ?_
    refine aops_nil ?_
    exact ago_retE E37_4 (r := x14) (ares_1 rfl (oneT rfl)) rfl H
theorem F37_ok {Q : Bool → AW → Prop} {E : List PanicEntry → AW → Prop} (r_0 : Value) (aw : AW) (H : S37_0 Q E r_0 aw) : CallP prog 37 [r_0] aw sh37 Q E :=
  callP_of func37 C37_is rfl (Nat.le_of_ble_eq_true rfl) (S37_0_ok Q E _ r_0 aw rfl H)
def C39_0 : Code := bodyOf f39
theorem C39_is : f39.body = some C39_0 := by kernel_rfl
def C39_1 : Code := cl C39_0
def R39_0 : Array Oper := regOps C39_1
def C39_2 : Code := cr C39_0
def C39_3 : Code := cl C39_2
def R39_1 : Array Oper := regOps C39_3
def C39_4 : Code := cr C39_2
theorem R39_0_N : dstsOk 20 R39_0 = true := by decide +kernel
theorem E39_1 : C39_1 = .region 0 R39_0 false := rfl
theorem R39_1_N : dstsOk 20 R39_1 = true := by decide +kernel
theorem E39_3 : C39_3 = .region 1 R39_1 false := rfl
theorem E39_4 : C39_4 = .ret := rfl
theorem E39_2 : C39_2 = .seq C39_3 C39_4 := rfl
theorem E39_0 : C39_0 = .seq C39_1 C39_2 := rfl
def S39_0 (Q : Bool → AW → Prop) (E : List PanicEntry → AW → Prop)  (r_0 : Value) (aw : AW) : Prop :=
  nilB (.pointer 116) r_0 (.pointer none) fun q1 =>
  cnd (!q1) (nck r_0 (fldA r_0 1 fun p6 =>
  ldB aw p6 fun x14 =>
  cnd (!x14) (nck r_0 (fldA r_0 0 fun p18 =>
  ldV aw p18 fun x26 =>
  slen x26 fun n28 =>
  Q (decide (n28 = 0)) aw)) (Q false aw))) (Q false aw)
theorem S39_0_ok (Q : Bool → AW → Prop) (E : List PanicEntry → AW → Prop)  (ρ : Env) (r_0 : Value) (aw : AW) (h0 : ρ 0 = r_0) (H : S39_0 Q E  r_0 aw) :
    AGo prog 20 [.code C39_0] ρ [] aw (RR prog f39 20 sh39 Q E) := by
  unfold S39_0 at H
  refine ago_seqE E39_0 ?_
  refine ago_regE E39_1 (l := [0]) rfl ?_
  refine lk (dt := some 2) R39_0_N rfl rfl rfl (opv_assign rfl rfl rfl) ?_
  refine aops_nil ?_
  refine ago_seqE E39_2 ?_
  refine ago_regE E39_3 (l := [0, 1, 2, 3, 4, 5, 6, 7, 8, 9, 10, 11, 12, 13, 14, 15, 16, 17]) rfl ?_
  refine lk (dt := some 3) R39_1_N rfl rfl rfl (opv_move rfl rfl h0) ?_
  obtain ⟨q1, hf2, hq3, H⟩ := H
  refine lk (dt := some 4) R39_1_N rfl rfl rfl (ov_neNil rfl rfl underlying85 rfl hf2 hq3) ?_
  refine lk (dt := some 5) R39_1_N rfl rfl rfl (opv_move rfl rfl rfl) ?_
  rcases Bool.eq_false_or_eq_true (!q1) with hb4 | hb4
  · replace H := cnd_t H hb4
    refine lk (dt := some 6) R39_1_N rfl rfl ⟨_, rfl, .inl ⟨_, rfl, gq hb4 rfl⟩⟩ (opv_move rfl rfl h0) ?_
    obtain ⟨hp5, H⟩ := H
    refine lk (dt := some 7) R39_1_N rfl rfl ⟨_, rfl, .inl ⟨_, rfl, gq hb4 rfl⟩⟩ (ov_nck rfl rfl rfl hp5) ?_
    obtain ⟨b7, i8, p6, hp9, hv10, H⟩ := H
    refine lk (dt := some 8) R39_1_N rfl rfl ⟨_, rfl, .inl ⟨_, rfl, gq hb4 rfl⟩⟩ (ov_fldA rfl rfl underlying116 rfl sz4 (by decide) rfl hp9 rfl hv10) ?_
    obtain ⟨b11, i12, x14, hp13, hg15, H⟩ := H
    refine lk (dt := some 9) R39_1_N rfl rfl ⟨_, rfl, .inl ⟨_, rfl, gq hb4 rfl⟩⟩ (ov_ldB rfl underlying4 rfl rfl hp13 hg15) ?_
    refine lk (dt := some 10) R39_1_N rfl rfl ⟨_, rfl, .inl ⟨_, rfl, gq hb4 rfl⟩⟩ (opv_not rfl rfl rfl) ?_
    refine lk (dt := some 11) R39_1_N rfl rfl rfl (ov_pickT rfl rfl rfl rfl rfl hb4 rfl) ?_
    refine lk (dt := some 12) R39_1_N rfl rfl rfl (opv_move rfl rfl rfl) ?_
    rcases Bool.eq_false_or_eq_true (!x14) with hb16 | hb16
    · replace H := cnd_t H hb16
      refine lk (dt := some 13) R39_1_N rfl rfl ⟨_, rfl, .inl ⟨_, rfl, gq hb16 rfl⟩⟩ (opv_move rfl rfl h0) ?_
      obtain ⟨hp17, H⟩ := H
      refine lk (dt := some 14) R39_1_N rfl rfl ⟨_, rfl, .inl ⟨_, rfl, gq hb16 rfl⟩⟩ (ov_nck rfl rfl rfl hp17) ?_
      obtain ⟨b19, i20, p18, hp21, hv22, H⟩ := H
      refine lk (dt := some 15) R39_1_N rfl rfl ⟨_, rfl, .inl ⟨_, rfl, gq hb16 rfl⟩⟩ (ov_fldA rfl rfl underlying116 rfl sz25 (by decide) rfl hp21 rfl hv22) ?_
      obtain ⟨b23, i24, x26, hp25, hg27, H⟩ := H
      refine lk (dt := some 16) R39_1_N rfl rfl ⟨_, rfl, .inl ⟨_, rfl, gq hb16 rfl⟩⟩ (ov_ldV rfl underlying25 rfl rfl rfl hp25 hg27) ?_
      obtain ⟨q29, l30, c31, n28, hv32, hn33, H⟩ := H
      refine lk (dt := some 17) R39_1_N rfl rfl ⟨_, rfl, .inl ⟨_, rfl, gq hb16 rfl⟩⟩ (ov_len rfl rfl rfl underlying25 rfl hv32 hn33) ?_
      refine lk (dt := some 18) R39_1_N rfl rfl ⟨_, rfl, .inl ⟨_, rfl, gq hb16 rfl⟩⟩ (opv_eqI rfl rfl rfl rfl rfl) ?_
      refine lk (dt := some 19) R39_1_N rfl rfl rfl (ov_pickT rfl rfl rfl rfl rfl hb16 rfl) ?_
      refine lk (dt := some 2) R39_1_N rfl rfl rfl (opv_assign rfl rfl rfl) ?_
      refine aops_nil ?_
      exact ago_retE E39_4 (r := (decide (n28 = 0))) (ares_1 rfl (oneT rfl)) rfl H
    · replace H := cnd_f H hb16
      refine lk_skip (dt := some 13) R39_1_N rfl rfl ⟨_, rfl, .inl ⟨_, rfl, gq hb16 rfl⟩⟩ ?_
      refine lk_skip (dt := some 14) R39_1_N rfl rfl ⟨_, rfl, .inl ⟨_, rfl, gq hb16 rfl⟩⟩ ?_
      refine lk_skip (dt := some 15) R39_1_N rfl rfl ⟨_, rfl, .inl ⟨_, rfl, gq hb16 rfl⟩⟩ ?_
      refine lk_skip (dt := some 16) R39_1_N rfl rfl ⟨_, rfl, .inl ⟨_, rfl, gq hb16 rfl⟩⟩ ?_
      refine lk_skip (dt := some 17) R39_1_N rfl rfl ⟨_, rfl, .inl ⟨_, rfl, gq hb16 rfl⟩⟩ ?_
      refine lk_skip (dt := some 18) R39_1_N rfl rfl ⟨_, rfl, .inl ⟨_, rfl, gq hb16 rfl⟩⟩ ?_
      refine lk (dt := some 19) R39_1_N rfl rfl rfl (ov_pickF rfl rfl rfl rfl rfl hb16 rfl) ?_
      refine lk (dt := some 2) R39_1_N rfl rfl rfl (opv_assign rfl rfl rfl) ?_
      refine aops_nil ?_
      exact ago_retE E39_4 (r := false) (ares_1 rfl (oneT rfl)) rfl H
  · replace H := cnd_f H hb4
    refine lk_skip (dt := some 6) R39_1_N rfl rfl ⟨_, rfl, .inl ⟨_, rfl, gq hb4 rfl⟩⟩ ?_
    refine lk_skip (dt := some 7) R39_1_N rfl rfl ⟨_, rfl, .inl ⟨_, rfl, gq hb4 rfl⟩⟩ ?_
    refine lk_skip (dt := some 8) R39_1_N rfl rfl ⟨_, rfl, .inl ⟨_, rfl, gq hb4 rfl⟩⟩ ?_
    refine lk_skip (dt := some 9) R39_1_N rfl rfl ⟨_, rfl, .inl ⟨_, rfl, gq hb4 rfl⟩⟩ ?_
    refine lk_skip (dt := some 10) R39_1_N rfl rfl ⟨_, rfl, .inl ⟨_, rfl, gq hb4 rfl⟩⟩ ?_
    refine lk (dt := some 11) R39_1_N rfl rfl rfl (ov_pickF rfl rfl rfl rfl rfl hb4 rfl) ?_
    refine lk (dt := some 12) R39_1_N rfl rfl rfl (opv_move rfl rfl rfl) ?_
    refine lk_skip (dt := some 13) R39_1_N rfl rfl ⟨_, rfl, .inl ⟨_, rfl, gq rfl rfl⟩⟩ ?_
    refine lk_skip (dt := some 14) R39_1_N rfl rfl ⟨_, rfl, .inl ⟨_, rfl, gq rfl rfl⟩⟩ ?_
    refine lk_skip (dt := some 15) R39_1_N rfl rfl ⟨_, rfl, .inl ⟨_, rfl, gq rfl rfl⟩⟩ ?_
    refine lk_skip (dt := some 16) R39_1_N rfl rfl ⟨_, rfl, .inl ⟨_, rfl, gq rfl rfl⟩⟩ ?_
    refine lk_skip (dt := some 17) R39_1_N rfl rfl ⟨_, rfl, .inl ⟨_, rfl, gq rfl rfl⟩⟩ ?_
    refine lk_skip (dt := some 18) R39_1_N rfl rfl ⟨_, rfl, .inl ⟨_, rfl, gq rfl rfl⟩⟩ ?_
    refine lk (dt := some 19) R39_1_N rfl rfl rfl (ov_pickF rfl rfl rfl rfl rfl rfl rfl) ?_
    refine lk (dt := some 2) R39_1_N rfl rfl rfl (opv_assign rfl rfl rfl) ?_
    refine aops_nil ?_
    exact ago_retE E39_4 (r := false) (ares_1 rfl (oneT rfl)) rfl H
theorem F39_ok {Q : Bool → AW → Prop} {E : List PanicEntry → AW → Prop} (r_0 : Value) (aw : AW) (H : S39_0 Q E r_0 aw) : CallP prog 39 [r_0] aw sh39 Q E :=
  callP_of func39 C39_is rfl (Nat.le_of_ble_eq_true rfl) (S39_0_ok Q E _ r_0 aw rfl H)
def C34_0 : Code := bodyOf f34
theorem C34_is : f34.body = some C34_0 := by kernel_rfl
def C34_1 : Code := cl C34_0
def R34_0 : Array Oper := regOps C34_1
def C34_2 : Code := cr C34_0
def C34_3 : Code := cl C34_2
def R34_1 : Array Oper := regOps C34_3
def C34_4 : Code := cr C34_2
def C34_5 : Code := cl C34_4
def C34_6 : Code := cl C34_5
def R34_2 : Array Oper := regOps C34_6
def C34_7 : Code := cr C34_5
def C34_8 : Code := cl C34_7
def C34_9 : Code := cl C34_8
def R34_3 : Array Oper := regOps C34_9
def C34_10 : Code := cr C34_8
def C34_11 : Code := cl C34_10
def R34_4 : Array Oper := regOps C34_11
def C34_12 : Code := cr C34_10
def C34_13 : Code := cr C34_7
def C34_14 : Code := cr C34_4
def C34_15 : Code := cl C34_14
def R34_5 : Array Oper := regOps C34_15
def C34_16 : Code := cr C34_14
theorem R34_0_N : dstsOk 30 R34_0 = true := by decide +kernel
theorem E34_1 : C34_1 = .region 0 R34_0 false := rfl
theorem R34_1_N : dstsOk 30 R34_1 = true := by decide +kernel
theorem E34_3 : C34_3 = .region 1 R34_1 false := rfl
theorem R34_2_N : dstsOk 30 R34_2 = true := by decide +kernel
theorem E34_6 : C34_6 = .region 2 R34_2 false := rfl
theorem R34_3_N : dstsOk 30 R34_3 = true := by decide +kernel
theorem E34_9 : C34_9 = .region 3 R34_3 false := rfl
theorem R34_4_N : dstsOk 30 R34_4 = true := by decide +kernel
theorem E34_11 : C34_11 = .region 4 R34_4 false := rfl
theorem E34_12 : C34_12 = .ret := rfl
theorem E34_10 : C34_10 = .seq C34_11 C34_12 := rfl
theorem E34_8 : C34_8 = .seq C34_9 C34_10 := rfl
theorem E34_13 : C34_13 = .skip := rfl
theorem E34_7 : C34_7 = .cond (.tmp 25) C34_8 C34_13 := rfl
theorem E34_5 : C34_5 = .seq C34_6 C34_7 := rfl
theorem R34_5_N : dstsOk 30 R34_5 = true := by decide +kernel
theorem E34_15 : C34_15 = .region 5 R34_5 false := rfl
theorem E34_16 : C34_16 = .ret := rfl
theorem E34_14 : C34_14 = .seq C34_15 C34_16 := rfl
theorem E34_4 : C34_4 = .seq C34_5 C34_14 := rfl
theorem E34_2 : C34_2 = .seq C34_3 C34_4 := rfl
theorem E34_0 : C34_0 = .seq C34_1 C34_2 := rfl
def S34_0 (Q : Int → AW → Prop) (E : List PanicEntry → AW → Prop)  (r_0 : Value) (most_1 : Int) (aw : AW) : Prop :=
  CallP prog 36 [r_0] aw sh36 (fun r1 aw2 =>
  nilB (.pointer 116) r_0 (.pointer none) fun q3 =>
  cnd q3 (CallP prog 63 [r_0] aw2 sh63 (fun r8 aw9 =>
  Q 0 aw9) E) (nck r_0 (fldA r_0 1 fun p11 =>
  ldB aw2 p11 fun x19 =>
  cnd x19 (CallP prog 63 [r_0] aw2 sh63 (fun r23 aw24 =>
  Q 0 aw24) E) (cnd (decide (most_1 < 0)) (CallP prog 63 [r_0] aw2 sh63 (fun r27 aw28 =>
  Q 0 aw28) E) (cnd (decide ((IntKind.u64.wrap most_1) < r1)) (CallP prog 63 [r_0] aw2 sh63 (fun r30 aw31 =>
  Q 0 aw31) E) (Q (IntKind.i64.wrap r1) aw2)))))) E
theorem S34_0_ok (Q : Int → AW → Prop) (E : List PanicEntry → AW → Prop)  (ρ : Env) (r_0 : Value) (most_1 : Int) (aw : AW) (h0 : ρ 0 = r_0) (h1 : ρ 1 = .int .i64 most_1) (H : S34_0 Q E  r_0 most_1 aw) :
    AGo prog 30 [.code C34_0] ρ [] aw (RR prog f34 30 sh34 Q E) := by
  unfold S34_0 at H
  refine ago_seqE E34_0 ?_
  refine ago_regE E34_1 (l := [0]) rfl ?_
  refine lk (dt := some 4) R34_0_N rfl rfl rfl (opv_assign rfl rfl rfl) ?_
  refine aops_nil ?_
  refine ago_seqE E34_2 ?_
  refine ago_regE E34_3 (l := [0, 1, 2]) rfl ?_
  refine lk (dt := some 6) R34_1_N rfl rfl rfl (opv_move rfl rfl h0) ?_
  refine lk_call (dt := some 7) R34_1_N rfl rfl rfl (opc_of rfl rfl is36 (ma_cons rfl rfl)) H (fun _ _ h => ⟨rfl, h⟩) fun r1 aw2 H => ?_
  refine lk (dt := some 5) R34_1_N rfl rfl rfl (opv_assign rfl rfl rfl) ?_
  refine aops_nil ?_
  refine ago_seqE E34_4 ?_
  refine ago_seqE E34_5 ?_
  refine ago_regE E34_6 (l := [0, 1, 2, 3, 4, 5, 6, 7, 8, 9, 10, 11, 12, 13, 14, 15, 16, 17]) rfl ?_
  refine lk (dt := some 8) R34_2_N rfl rfl rfl (opv_move rfl rfl h0) ?_
  obtain ⟨q3, hf4, hq5, H⟩ := H
  refine lk (dt := some 9) R34_2_N rfl rfl rfl (ov_eqNil rfl rfl underlying85 rfl hf4 hq5) ?_
  refine lk (dt := some 10) R34_2_N rfl rfl rfl (opv_move rfl rfl rfl) ?_
  rcases Bool.eq_false_or_eq_true q3 with hb6 | hb6
  · replace H := cnd_t H hb6
    refine lk_skip (dt := some 11) R34_2_N rfl rfl ⟨_, rfl, .inl ⟨_, rfl, gq hb6 rfl⟩⟩ ?_
    refine lk_skip (dt := some 12) R34_2_N rfl rfl ⟨_, rfl, .inl ⟨_, rfl, gq hb6 rfl⟩⟩ ?_
    refine lk_skip (dt := some 13) R34_2_N rfl rfl ⟨_, rfl, .inl ⟨_, rfl, gq hb6 rfl⟩⟩ ?_
    refine lk_skip (dt := some 14) R34_2_N rfl rfl ⟨_, rfl, .inl ⟨_, rfl, gq hb6 rfl⟩⟩ ?_
    refine lk (dt := some 15) R34_2_N rfl rfl rfl (ov_pickT rfl rfl rfl rfl rfl hb6 rfl) ?_
    refine lk (dt := some 16) R34_2_N rfl rfl rfl (opv_move rfl rfl rfl) ?_
    refine lk_skip (dt := some 17) R34_2_N rfl rfl ⟨_, rfl, .inl ⟨_, rfl, gq rfl rfl⟩⟩ ?_
    refine lk_skip (dt := some 18) R34_2_N rfl rfl ⟨_, rfl, .inl ⟨_, rfl, gq rfl rfl⟩⟩ ?_
    refine lk (dt := some 19) R34_2_N rfl rfl rfl (ov_pickT rfl rfl rfl rfl rfl rfl rfl) ?_
    refine lk (dt := some 20) R34_2_N rfl rfl rfl (opv_move rfl rfl rfl) ?_
    refine lk_skip (dt := some 21) R34_2_N rfl rfl ⟨_, rfl, .inl ⟨_, rfl, gq rfl rfl⟩⟩ ?_
    refine lk_skip (dt := some 22) R34_2_N rfl rfl ⟨_, rfl, .inl ⟨_, rfl, gq rfl rfl⟩⟩ ?_
    refine lk_skip (dt := some 23) R34_2_N rfl rfl ⟨_, rfl, .inl ⟨_, rfl, gq rfl rfl⟩⟩ ?_
    refine lk_skip (dt := some 24) R34_2_N rfl rfl ⟨_, rfl, .inl ⟨_, rfl, gq rfl rfl⟩⟩ ?_
    refine lk (dt := some 25) R34_2_N rfl rfl rfl (ov_pickT rfl rfl rfl rfl rfl rfl rfl) ?_
    refine aops_nil ?_
    refine ago_condE  E34_7 rfl rfl (fun h => ?_) (fun h => tf h)
    refine ago_seqE E34_8 ?_
    refine ago_cut (fun ρ => ρ 0 = r_0 ∧ True) ⟨h0, trivial⟩ (fun ρ ⟨h0, _⟩ => ?_)
    refine ago_regE E34_9 (l := [0, 1]) rfl ?_
    refine lk (dt := some 26) R34_3_N rfl rfl rfl (opv_move rfl rfl h0) ?_
    refine lk_call (dt := some 27) R34_3_N rfl rfl rfl (opc_of rfl rfl is63 (ma_cons rfl rfl)) H (fun _ _ h => ⟨rfl, h⟩) fun r8 aw9 H => ?_
    refine aops_nil ?_
    refine ago_seqE E34_10 ?_
    refine ago_regE E34_11 (l := [0]) rfl ?_
    refine lk (dt := some 4) R34_4_N rfl rfl rfl (opv_assign rfl rfl rfl) ?_
    refine aops_nil ?_
    exact ago_retE E34_12 (r := 0) (ares_1 rfl (oneT rfl)) rfl H
  · replace H := cnd_f H hb6
    refine lk (dt := some 11) R34_2_N rfl rfl ⟨_, rfl, .inl ⟨_, rfl, gq hb6 rfl⟩⟩ (opv_move rfl rfl h0) ?_
    obtain ⟨hp10, H⟩ := H
    refine lk (dt := some 12) R34_2_N rfl rfl ⟨_, rfl, .inl ⟨_, rfl, gq hb6 rfl⟩⟩ (ov_nck rfl rfl rfl hp10) ?_
    obtain ⟨b12, i13, p11, hp14, hv15, H⟩ := H
    refine lk (dt := some 13) R34_2_N rfl rfl ⟨_, rfl, .inl ⟨_, rfl, gq hb6 rfl⟩⟩ (ov_fldA rfl rfl underlying116 rfl sz4 (by decide) rfl hp14 rfl hv15) ?_
    obtain ⟨b16, i17, x19, hp18, hg20, H⟩ := H
    refine lk (dt := some 14) R34_2_N rfl rfl ⟨_, rfl, .inl ⟨_, rfl, gq hb6 rfl⟩⟩ (ov_ldB rfl underlying4 rfl rfl hp18 hg20) ?_
    refine lk (dt := some 15) R34_2_N rfl rfl rfl (ov_pickF rfl rfl rfl rfl rfl hb6 rfl) ?_
    refine lk (dt := some 16) R34_2_N rfl rfl rfl (opv_move rfl rfl rfl) ?_
    rcases Bool.eq_false_or_eq_true x19 with hb21 | hb21
    · replace H := cnd_t H hb21
      refine lk_skip (dt := some 17) R34_2_N rfl rfl ⟨_, rfl, .inl ⟨_, rfl, gq hb21 rfl⟩⟩ ?_
      refine lk_skip (dt := some 18) R34_2_N rfl rfl ⟨_, rfl, .inl ⟨_, rfl, gq hb21 rfl⟩⟩ ?_
      refine lk (dt := some 19) R34_2_N rfl rfl rfl (ov_pickT rfl rfl rfl rfl rfl hb21 rfl) ?_
      refine lk (dt := some 20) R34_2_N rfl rfl rfl (opv_move rfl rfl rfl) ?_
      refine lk_skip (dt := some 21) R34_2_N rfl rfl ⟨_, rfl, .inl ⟨_, rfl, gq rfl rfl⟩⟩ ?_
      refine lk_skip (dt := some 22) R34_2_N rfl rfl ⟨_, rfl, .inl ⟨_, rfl, gq rfl rfl⟩⟩ ?_
      refine lk_skip (dt := some 23) R34_2_N rfl rfl ⟨_, rfl, .inl ⟨_, rfl, gq rfl rfl⟩⟩ ?_
      refine lk_skip (dt := some 24) R34_2_N rfl rfl ⟨_, rfl, .inl ⟨_, rfl, gq rfl rfl⟩⟩ ?_
      refine lk (dt := some 25) R34_2_N rfl rfl rfl (ov_pickT rfl rfl rfl rfl rfl rfl rfl) ?_
      refine aops_nil ?_
      refine ago_condE  E34_7 rfl rfl (fun h => ?_) (fun h => tf h)
      refine ago_seqE E34_8 ?_
      refine ago_cut (fun ρ => ρ 0 = r_0 ∧ True) ⟨h0, trivial⟩ (fun ρ ⟨h0, _⟩ => ?_)
      refine ago_regE E34_9 (l := [0, 1]) rfl ?_
      refine lk (dt := some 26) R34_3_N rfl rfl rfl (opv_move rfl rfl h0) ?_
      refine lk_call (dt := some 27) R34_3_N rfl rfl rfl (opc_of rfl rfl is63 (ma_cons rfl rfl)) H (fun _ _ h => ⟨rfl, h⟩) fun r23 aw24 H => ?_
      refine aops_nil ?_
      refine ago_seqE E34_10 ?_
      refine ago_regE E34_11 (l := [0]) rfl ?_
      refine lk (dt := some 4) R34_4_N rfl rfl rfl (opv_assign rfl rfl rfl) ?_
      refine aops_nil ?_
      exact ago_retE E34_12 (r := 0) (ares_1 rfl (oneT rfl)) rfl H
    · replace H := cnd_f H hb21
      refine lk (dt := some 17) R34_2_N rfl rfl ⟨_, rfl, .inl ⟨_, rfl, gq hb21 rfl⟩⟩ (opv_move rfl rfl h1) ?_
      refine lk (dt := some 18) R34_2_N rfl rfl ⟨_, rfl, .inl ⟨_, rfl, gq hb21 rfl⟩⟩ (opv_lt rfl rfl rfl rfl rfl) ?_
      refine lk (dt := some 19) R34_2_N rfl rfl rfl (ov_pickF rfl rfl rfl rfl rfl hb21 rfl) ?_
      refine lk (dt := some 20) R34_2_N rfl rfl rfl (opv_move rfl rfl rfl) ?_
      rcases Bool.eq_false_or_eq_true (decide (most_1 < 0)) with hb25 | hb25
      · replace H := cnd_t H hb25
        refine lk_skip (dt := some 21) R34_2_N rfl rfl ⟨_, rfl, .inl ⟨_, rfl, gq hb25 rfl⟩⟩ ?_
        refine lk_skip (dt := some 22) R34_2_N rfl rfl ⟨_, rfl, .inl ⟨_, rfl, gq hb25 rfl⟩⟩ ?_
        refine lk_skip (dt := some 23) R34_2_N rfl rfl ⟨_, rfl, .inl ⟨_, rfl, gq hb25 rfl⟩⟩ ?_
        refine lk_skip (dt := some 24) R34_2_N rfl rfl ⟨_, rfl, .inl ⟨_, rfl, gq hb25 rfl⟩⟩ ?_
        refine lk (dt := some 25) R34_2_N rfl rfl rfl (ov_pickT rfl rfl rfl rfl rfl hb25 rfl) ?_
        refine aops_nil ?_
        refine ago_condE  E34_7 rfl rfl (fun h => ?_) (fun h => tf h)
        refine ago_seqE E34_8 ?_
        refine ago_cut (fun ρ => ρ 0 = r_0 ∧ True) ⟨h0, trivial⟩ (fun ρ ⟨h0, _⟩ => ?_)
        refine ago_regE E34_9 (l := [0, 1]) rfl ?_
        refine lk (dt := some 26) R34_3_N rfl rfl rfl (opv_move rfl rfl h0) ?_
        refine lk_call (dt := some 27) R34_3_N rfl rfl rfl (opc_of rfl rfl is63 (ma_cons rfl rfl)) H (fun _ _ h => ⟨rfl, h⟩) fun r27 aw28 H => ?_
        refine aops_nil ?_
        refine ago_seqE E34_10 ?_
        refine ago_regE E34_11 (l := [0]) rfl ?_
        refine lk (dt := some 4) R34_4_N rfl rfl rfl (opv_assign rfl rfl rfl) ?_
        refine aops_nil ?_
        exact ago_retE E34_12 (r := 0) (ares_1 rfl (oneT rfl)) rfl H
      · replace H := cnd_f H hb25
        refine lk (dt := some 21) R34_2_N rfl rfl ⟨_, rfl, .inl ⟨_, rfl, gq hb25 rfl⟩⟩ (opv_move rfl rfl rfl) ?_
        refine lk (dt := some 22) R34_2_N rfl rfl ⟨_, rfl, .inl ⟨_, rfl, gq hb25 rfl⟩⟩ (opv_move rfl rfl h1) ?_
        refine lk (dt := some 23) R34_2_N rfl rfl ⟨_, rfl, .inl ⟨_, rfl, gq hb25 rfl⟩⟩ (opv_conv rfl rfl underlying3 underlying24 rfl) ?_
        refine lk (dt := some 24) R34_2_N rfl rfl ⟨_, rfl, .inl ⟨_, rfl, gq hb25 rfl⟩⟩ (opv_gt rfl rfl rfl rfl rfl) ?_
        refine lk (dt := some 25) R34_2_N rfl rfl rfl (ov_pickF rfl rfl rfl rfl rfl hb25 rfl) ?_
        refine aops_nil ?_
        refine ago_condE  E34_7 rfl rfl (fun hb29 => ?_) (fun hb29 => ?_)
        · replace H := cnd_t H hb29
          refine ago_seqE E34_8 ?_
          refine ago_cut (fun ρ => ρ 0 = r_0 ∧ True) ⟨h0, trivial⟩ (fun ρ ⟨h0, _⟩ => ?_)
          refine ago_regE E34_9 (l := [0, 1]) rfl ?_
          refine lk (dt := some 26) R34_3_N rfl rfl rfl (opv_move rfl rfl h0) ?_
          refine lk_call (dt := some 27) R34_3_N rfl rfl rfl (opc_of rfl rfl is63 (ma_cons rfl rfl)) H (fun _ _ h => ⟨rfl, h⟩) fun r30 aw31 H => ?_
          refine aops_nil ?_
          refine ago_seqE E34_10 ?_
          refine ago_regE E34_11 (l := [0]) rfl ?_
          refine lk (dt := some 4) R34_4_N rfl rfl rfl (opv_assign rfl rfl rfl) ?_
          refine aops_nil ?_
          exact ago_retE E34_12 (r := 0) (ares_1 rfl (oneT rfl)) rfl H
        · replace H := cnd_f H hb29
          refine ago_skipE E34_13 ?_
          refine ago_seqE E34_14 ?_
          refine ago_cut (fun ρ => ρ 5 = .int .u64 r1 ∧ True) ⟨rfl, trivial⟩ (fun ρ ⟨h5, _⟩ => ?_)
          refine ago_regE E34_15 (l := [0, 1, 2]) rfl ?_
          refine lk (dt := some 28) R34_5_N rfl rfl rfl (opv_move rfl rfl h5) ?_
          refine lk (dt := some 29) R34_5_N rfl rfl rfl (opv_conv rfl rfl underlying24 underlying3 rfl) ?_
          refine lk (dt := some 4) R34_5_N rfl rfl rfl (opv_assign rfl rfl rfl) ?_
          refine aops_nil ?_
          exact ago_retE E34_16 (r := (IntKind.i64.wrap r1)) (ares_1 rfl (oneT rfl)) rfl H
theorem F34_ok {Q : Int → AW → Prop} {E : List PanicEntry → AW → Prop} (r_0 : Value) (most_1 : Int) (aw : AW) (H : S34_0 Q E r_0 most_1 aw) : CallP prog 34 [r_0, .int .i64 most_1] aw sh34 Q E :=
  callP_of func34 C34_is rfl (Nat.le_of_ble_eq_true rfl) (S34_0_ok Q E _ r_0 most_1 aw rfl rfl H)
def C35_0 : Code := bodyOf f35
theorem C35_is : f35.body = some C35_0 := by kernel_rfl
def C35_1 : Code := cl C35_0
def R35_0 : Array Oper := regOps C35_1
def C35_2 : Code := cr C35_0
def C35_3 : Code := cl C35_2
def R35_1 : Array Oper := regOps C35_3
def C35_4 : Code := cr C35_2
def C35_5 : Code := cl C35_4
def R35_2 : Array Oper := regOps C35_5
def C35_6 : Code := cr C35_4
theorem R35_0_N : dstsOk 14 R35_0 = true := by decide +kernel
theorem E35_1 : C35_1 = .region 0 R35_0 false := rfl
theorem R35_1_N : dstsOk 14 R35_1 = true := by decide +kernel
theorem E35_3 : C35_3 = .region 1 R35_1 false := rfl
theorem R35_2_N : dstsOk 14 R35_2 = true := by decide +kernel
theorem E35_5 : C35_5 = .region 2 R35_2 false := rfl
theorem E35_6 : C35_6 = .ret := rfl
theorem E35_4 : C35_4 = .seq C35_5 C35_6 := rfl
theorem E35_2 : C35_2 = .seq C35_3 C35_4 := rfl
theorem E35_0 : C35_0 = .seq C35_1 C35_2 := rfl
def S35_0 (Q : Int → AW → Prop) (E : List PanicEntry → AW → Prop)  (r_0 : Value) (aw : AW) : Prop :=
  CallP prog 36 [r_0] aw sh36 (fun r1 aw2 =>
  Q (bitsOf .xor .i64 (IntKind.i64.wrap (Int.fdiv r1 (2 ^ (min (1 : Int).toNat IntKind.u64.bits)))) (IntKind.i64.wrap (-(IntKind.i64.wrap (bitsOf .and .u64 r1 1))))) aw2) E
theorem S35_0_ok (Q : Int → AW → Prop) (E : List PanicEntry → AW → Prop)  (ρ : Env) (r_0 : Value) (aw : AW) (h0 : ρ 0 = r_0) (H : S35_0 Q E  r_0 aw) :
    AGo prog 14 [.code C35_0] ρ [] aw (RR prog f35 14 sh35 Q E) := by
  unfold S35_0 at H
  refine ago_seqE E35_0 ?_
  refine ago_regE E35_1 (l := [0]) rfl ?_
  refine lk (dt := some 2) R35_0_N rfl rfl rfl (opv_assign rfl rfl rfl) ?_
  refine aops_nil ?_
  refine ago_seqE E35_2 ?_
  refine ago_regE E35_3 (l := [0, 1, 2]) rfl ?_
  refine lk (dt := some 4) R35_1_N rfl rfl rfl (opv_move rfl rfl h0) ?_
  refine lk_call (dt := some 5) R35_1_N rfl rfl rfl (opc_of rfl rfl is36 (ma_cons rfl rfl)) H (fun _ _ h => ⟨rfl, h⟩) fun r1 aw2 H => ?_
  refine lk (dt := some 3) R35_1_N rfl rfl rfl (opv_assign rfl rfl rfl) ?_
  refine aops_nil ?_
  refine ago_seqE E35_4 ?_
  refine ago_regE E35_5 (l := [0, 1, 2, 3, 4, 5, 6, 7, 8]) rfl ?_
  refine lk (dt := some 6) R35_2_N rfl rfl rfl (opv_move rfl rfl rfl) ?_
  refine lk (dt := some 7) R35_2_N rfl rfl rfl (opv_shr rfl rfl rfl rfl rfl (by decide)) ?_
  refine lk (dt := some 8) R35_2_N rfl rfl rfl (opv_conv rfl rfl underlying24 underlying2 rfl) ?_
  refine lk (dt := some 9) R35_2_N rfl rfl rfl (opv_move rfl rfl rfl) ?_
  refine lk (dt := some 10) R35_2_N rfl rfl rfl (opv_and rfl rfl rfl rfl rfl) ?_
  refine lk (dt := some 11) R35_2_N rfl rfl rfl (opv_conv rfl rfl underlying24 underlying2 rfl) ?_
  refine lk (dt := some 12) R35_2_N rfl rfl rfl (opv_neg rfl rfl rfl) ?_
  refine lk (dt := some 13) R35_2_N rfl rfl rfl (opv_xor rfl rfl rfl rfl rfl) ?_
  refine lk (dt := some 2) R35_2_N rfl rfl rfl (opv_assign rfl rfl rfl) ?_
  refine aops_nil ?_
  exact ago_retE E35_6 (r := (bitsOf .xor .i64 (IntKind.i64.wrap (Int.fdiv r1 (2 ^ (min (1 : Int).toNat IntKind.u64.bits)))) (IntKind.i64.wrap (-(IntKind.i64.wrap (bitsOf .and .u64 r1 1)))))) (ares_1 rfl (oneT rfl)) rfl H
theorem F35_ok {Q : Int → AW → Prop} {E : List PanicEntry → AW → Prop} (r_0 : Value) (aw : AW) (H : S35_0 Q E r_0 aw) : CallP prog 35 [r_0] aw sh35 Q E :=
  callP_of func35 C35_is rfl (Nat.le_of_ble_eq_true rfl) (S35_0_ok Q E _ r_0 aw rfl H)
def C38_0 : Code := bodyOf f38
theorem C38_is : f38.body = some C38_0 := by kernel_rfl
def C38_1 : Code := cl C38_0
def R38_0 : Array Oper := regOps C38_1
def C38_2 : Code := cr C38_0
def C38_3 : Code := cl C38_2
def R38_1 : Array Oper := regOps C38_3
def C38_4 : Code := cr C38_2
def C38_5 : Code := cl C38_4
def C38_6 : Code := cl C38_5
def R38_2 : Array Oper := regOps C38_6
def C38_7 : Code := cr C38_5
def C38_8 : Code := cl C38_7
def C38_9 : Code := cl C38_8
def R38_3 : Array Oper := regOps C38_9
def C38_10 : Code := cr C38_8
def C38_11 : Code := cl C38_10
def R38_4 : Array Oper := regOps C38_11
def C38_12 : Code := cr C38_10
def C38_13 : Code := cr C38_7
def C38_14 : Code := cr C38_4
def C38_15 : Code := cl C38_14
def R38_5 : Array Oper := regOps C38_15
def C38_16 : Code := cr C38_14
def C38_17 : Code := cl C38_16
def R38_6 : Array Oper := regOps C38_17
def C38_18 : Code := cr C38_16
def C38_19 : Code := cl C38_18
def R38_7 : Array Oper := regOps C38_19
def C38_20 : Code := cr C38_18
theorem R38_0_N : dstsOk 46 R38_0 = true := by decide +kernel
theorem E38_1 : C38_1 = .region 0 R38_0 false := rfl
theorem R38_1_N : dstsOk 46 R38_1 = true := by decide +kernel
theorem E38_3 : C38_3 = .region 1 R38_1 false := rfl
theorem R38_2_N : dstsOk 46 R38_2 = true := by decide +kernel
theorem E38_6 : C38_6 = .region 2 R38_2 false := rfl
theorem R38_3_N : dstsOk 46 R38_3 = true := by decide +kernel
theorem E38_9 : C38_9 = .region 3 R38_3 false := rfl
theorem R38_4_N : dstsOk 46 R38_4 = true := by decide +kernel
theorem E38_11 : C38_11 = .region 4 R38_4 false := rfl
theorem E38_12 : C38_12 = .ret := rfl
theorem E38_10 : C38_10 = .seq C38_11 C38_12 := rfl
theorem E38_8 : C38_8 = .seq C38_9 C38_10 := rfl
theorem E38_13 : C38_13 = .skip := rfl
theorem E38_7 : C38_7 = .cond (.tmp 26) C38_8 C38_13 := rfl
theorem E38_5 : C38_5 = .seq C38_6 C38_7 := rfl
theorem R38_5_N : dstsOk 46 R38_5 = true := by decide +kernel
theorem E38_15 : C38_15 = .region 5 R38_5 false := rfl
theorem R38_6_N : dstsOk 46 R38_6 = true := by decide +kernel
theorem E38_17 : C38_17 = .region 6 R38_6 false := rfl
theorem R38_7_N : dstsOk 46 R38_7 = true := by decide +kernel
theorem E38_19 : C38_19 = .region 7 R38_7 false := rfl
theorem E38_20 : C38_20 = .ret := rfl
theorem E38_18 : C38_18 = .seq C38_19 C38_20 := rfl
theorem E38_16 : C38_16 = .seq C38_17 C38_18 := rfl
theorem E38_14 : C38_14 = .seq C38_15 C38_16 := rfl
theorem E38_4 : C38_4 = .seq C38_5 C38_14 := rfl
theorem E38_2 : C38_2 = .seq C38_3 C38_4 := rfl
theorem E38_0 : C38_0 = .seq C38_1 C38_2 := rfl
def S38_1 (Q : Value → AW → Prop) (E : List PanicEntry → AW → Prop)  (r_0 : Value) (n_5 : Int) (t_26 : Bool) (aw : AW) : Prop :=
  cnd t_26 (CallP prog 63 [r_0] aw sh63 (fun r2 aw3 =>
  Q (.slice none 0 0) aw3) E) (nck r_0 (fldA r_0 0 fun p5 =>
  ldV aw p5 fun x13 =>
  cutV aw 1 x13 0 n_5 fun v15 =>
  CallP prog 57 [v15] aw sh57 (fun r17 aw18 =>
  nck r_0 (fldA r_0 0 fun p20 =>
  ldV aw18 p20 fun x28 =>
  cutV aw18 1 x28 n_5 (lenV x28) fun v30 =>
  nck r_0 (fldA r_0 0 fun p33 =>
  st aw18 p33 [v30] fun aw38 =>
  Q r17 aw38))) E))
def S38_0 (Q : Value → AW → Prop) (E : List PanicEntry → AW → Prop)  (r_0 : Value) (most_1 : Int) (aw : AW) : Prop :=
  CallP prog 34 [r_0, .int .i64 most_1] aw sh34 (fun r45 aw46 =>
  nilB (.pointer 116) r_0 (.pointer none) fun q47 =>
  cnd q47 (S38_1 Q E  r_0 r45 true aw46) (nck r_0 (fldA r_0 1 fun p52 =>
  ldB aw46 p52 fun x60 =>
  cnd x60 (S38_1 Q E  r_0 r45 true aw46) (nck r_0 (fldA r_0 0 fun p64 =>
  ldV aw46 p64 fun x72 =>
  slen x72 fun n74 =>
  S38_1 Q E  r_0 r45 (decide (n74 < r45)) aw46))))) E
theorem S38_1_ok (Q : Value → AW → Prop) (E : List PanicEntry → AW → Prop)  (ρ : Env) (r_0 : Value) (n_5 : Int) (t_26 : Bool) (aw : AW) (h0 : ρ 0 = r_0) (h5 : ρ 5 = .int .i64 n_5) (h26 : ρ 26 = .bool t_26) (H : S38_1 Q E  r_0 n_5 t_26 aw) :
    AGo prog 46 [.code C38_7, .code C38_14] ρ [] aw (RR prog f38 46 sh38 Q E) := by
  unfold S38_1 at H
  refine ago_condE  E38_7 rfl h26 (fun hb1 => ?_) (fun hb1 => ?_)
  · replace H := cnd_t H hb1
    refine ago_seqE E38_8 ?_
    refine ago_regE E38_9 (l := [0, 1]) rfl ?_
    refine lk (dt := some 27) R38_3_N rfl rfl rfl (opv_move rfl rfl h0) ?_
    refine lk_call (dt := some 28) R38_3_N rfl rfl rfl (opc_of rfl rfl is63 (ma_cons rfl rfl)) H (fun _ _ h => ⟨rfl, h⟩) fun r2 aw3 H => ?_
    refine aops_nil ?_
    refine ago_seqE E38_10 ?_
    refine ago_regE E38_11 (l := [0]) rfl ?_
    refine lk (dt := some 4) R38_4_N rfl rfl rfl (opv_assign rfl rfl rfl) ?_
    refine aops_nil ?_
    exact ago_retE E38_12 (r := (.slice none 0 0)) (ares_1 rfl (oneT rfl)) rfl H
  · replace H := cnd_f H hb1
    refine ago_skipE E38_13 ?_
    refine ago_seqE E38_14 ?_
    refine ago_regE E38_15 (l := [0, 1, 2, 3, 4, 5, 6, 7]) rfl ?_
    refine lk (dt := some 29) R38_5_N rfl rfl rfl (opv_move rfl rfl h0) ?_
    obtain ⟨hp4, H⟩ := H
    refine lk (dt := some 30) R38_5_N rfl rfl rfl (ov_nck rfl rfl rfl hp4) ?_
    obtain ⟨b6, i7, p5, hp8, hv9, H⟩ := H
    refine lk (dt := some 31) R38_5_N rfl rfl rfl (ov_fldA rfl rfl underlying116 rfl sz25 (by decide) rfl hp8 rfl hv9) ?_
    obtain ⟨b10, i11, x13, hp12, hg14, H⟩ := H
    refine lk (dt := some 32) R38_5_N rfl rfl rfl (ov_ldV rfl underlying25 rfl rfl rfl hp12 hg14) ?_
    refine lk (dt := some 33) R38_5_N rfl rfl rfl (opv_move rfl rfl h5) ?_
    obtain ⟨v15, hq16, H⟩ := H
    refine lk (dt := some 34) R38_5_N rfl rfl rfl (ov_cutV rfl rfl underlying25 sz5 rfl (bndN _ _ _) (bndS rfl) hq16) ?_
    refine lk_call (dt := some 35) R38_5_N rfl rfl rfl (opc_of rfl rfl is57 (ma_cons rfl rfl)) H (fun _ _ h => ⟨rfl, h⟩) fun r17 aw18 H => ?_
    refine lk (dt := some 6) R38_5_N rfl rfl rfl (opv_assign rfl rfl rfl) ?_
    refine aops_nil ?_
    refine ago_seqE E38_16 ?_
    refine ago_regE E38_17 (l := [0, 1, 2, 3, 4, 5, 6, 7, 8, 9]) rfl ?_
    refine lk (dt := some 36) R38_6_N rfl rfl rfl (opv_move rfl rfl h0) ?_
    refine lk (dt := some 37) R38_6_N rfl rfl rfl (opv_move rfl rfl h0) ?_
    obtain ⟨hp19, H⟩ := H
    refine lk (dt := some 38) R38_6_N rfl rfl rfl (ov_nck rfl rfl rfl hp19) ?_
    obtain ⟨b21, i22, p20, hp23, hv24, H⟩ := H
    refine lk (dt := some 39) R38_6_N rfl rfl rfl (ov_fldA rfl rfl underlying116 rfl sz25 (by decide) rfl hp23 rfl hv24) ?_
    obtain ⟨b25, i26, x28, hp27, hg29, H⟩ := H
    refine lk (dt := some 40) R38_6_N rfl rfl rfl (ov_ldV rfl underlying25 rfl rfl rfl hp27 hg29) ?_
    refine lk (dt := some 41) R38_6_N rfl rfl rfl (opv_move rfl rfl h5) ?_
    obtain ⟨v30, hq31, H⟩ := H
    refine lk (dt := some 42) R38_6_N rfl rfl rfl (ov_cutV rfl rfl underlying25 sz5 rfl (bndS rfl) (bndN _ _ _) hq31) ?_
    obtain ⟨hp32, H⟩ := H
    refine lk (dt := some 43) R38_6_N rfl rfl rfl (ov_nck rfl rfl rfl hp32) ?_
    obtain ⟨b34, i35, p33, hp36, hv37, H⟩ := H
    refine lk (dt := some 44) R38_6_N rfl rfl rfl (ov_fldA rfl rfl underlying116 rfl sz25 (by decide) rfl hp36 rfl hv37) ?_
    obtain ⟨b39, i40, aw38, hp41, hw42, ho43, ha44, H⟩ := H
    refine lk (dt := none) R38_6_N rfl rfl rfl (ov_st rfl rfl rfl rfl rfl (cells_all ho43) sz25 hp41 hw42 ho43 ha44) ?_
    refine aops_nil ?_
    refine ago_seqE E38_18 ?_
    refine ago_cut (fun ρ => ρ 6 = r17 ∧ True) ⟨rfl, trivial⟩ (fun ρ ⟨h6, _⟩ => ?_)
    refine ago_regE E38_19 (l := [0, 1]) rfl ?_
    refine lk (dt := some 45) R38_7_N rfl rfl rfl (opv_move rfl rfl h6) ?_
    refine lk (dt := some 4) R38_7_N rfl rfl rfl (opv_assign rfl rfl rfl) ?_
    refine aops_nil ?_
    exact ago_retE E38_20 (r := r17) (ares_1 rfl (oneT rfl)) rfl H
theorem S38_0_ok (Q : Value → AW → Prop) (E : List PanicEntry → AW → Prop)  (ρ : Env) (r_0 : Value) (most_1 : Int) (aw : AW) (h0 : ρ 0 = r_0) (h1 : ρ 1 = .int .i64 most_1) (H : S38_0 Q E  r_0 most_1 aw) :
    AGo prog 46 [.code C38_0] ρ [] aw (RR prog f38 46 sh38 Q E) := by
  unfold S38_0 at H
  refine ago_seqE E38_0 ?_
  refine ago_regE E38_1 (l := [0]) rfl ?_
  refine lk (dt := some 4) R38_0_N rfl rfl rfl (opv_assign rfl rfl rfl) ?_
  refine aops_nil ?_
  refine ago_seqE E38_2 ?_
  refine ago_regE E38_3 (l := [0, 1, 2, 3]) rfl ?_
  refine lk (dt := some 7) R38_1_N rfl rfl rfl (opv_move rfl rfl h0) ?_
  refine lk (dt := some 8) R38_1_N rfl rfl rfl (opv_move rfl rfl h1) ?_
  refine lk_call (dt := some 9) R38_1_N rfl rfl rfl (opc_of rfl rfl is34 (ma_cons rfl (ma_cons rfl rfl))) H (fun _ _ h => ⟨rfl, h⟩) fun r45 aw46 H => ?_
  refine lk (dt := some 5) R38_1_N rfl rfl rfl (opv_assign rfl rfl rfl) ?_
  refine aops_nil ?_
  refine ago_seqE E38_4 ?_
  refine ago_seqE E38_5 ?_
  refine ago_regE E38_6 (l := [0, 1, 2, 3, 4, 5, 6, 7, 8, 9, 10, 11, 12, 13, 14, 15, 16]) rfl ?_
  refine lk (dt := some 10) R38_2_N rfl rfl rfl (opv_move rfl rfl h0) ?_
  obtain ⟨q47, hf48, hq49, H⟩ := H
  refine lk (dt := some 11) R38_2_N rfl rfl rfl (ov_eqNil rfl rfl underlying85 rfl hf48 hq49) ?_
  refine lk (dt := some 12) R38_2_N rfl rfl rfl (opv_move rfl rfl rfl) ?_
  rcases Bool.eq_false_or_eq_true q47 with hb50 | hb50
  · replace H := cnd_t H hb50
    refine lk_skip (dt := some 13) R38_2_N rfl rfl ⟨_, rfl, .inl ⟨_, rfl, gq hb50 rfl⟩⟩ ?_
    refine lk_skip (dt := some 14) R38_2_N rfl rfl ⟨_, rfl, .inl ⟨_, rfl, gq hb50 rfl⟩⟩ ?_
    refine lk_skip (dt := some 15) R38_2_N rfl rfl ⟨_, rfl, .inl ⟨_, rfl, gq hb50 rfl⟩⟩ ?_
    refine lk_skip (dt := some 16) R38_2_N rfl rfl ⟨_, rfl, .inl ⟨_, rfl, gq hb50 rfl⟩⟩ ?_
    refine lk (dt := some 17) R38_2_N rfl rfl rfl (ov_pickT rfl rfl rfl rfl rfl hb50 rfl) ?_
    refine lk (dt := some 18) R38_2_N rfl rfl rfl (opv_move rfl rfl rfl) ?_
    refine lk_skip (dt := some 19) R38_2_N rfl rfl ⟨_, rfl, .inl ⟨_, rfl, gq rfl rfl⟩⟩ ?_
    refine lk_skip (dt := some 20) R38_2_N rfl rfl ⟨_, rfl, .inl ⟨_, rfl, gq rfl rfl⟩⟩ ?_
    refine lk_skip (dt := some 21) R38_2_N rfl rfl ⟨_, rfl, .inl ⟨_, rfl, gq rfl rfl⟩⟩ ?_
    refine lk_skip (dt := some 22) R38_2_N rfl rfl ⟨_, rfl, .inl ⟨_, rfl, gq rfl rfl⟩⟩ ?_
    refine lk_skip (dt := some 23) R38_2_N rfl rfl ⟨_, rfl, .inl ⟨_, rfl, gq rfl rfl⟩⟩ ?_
    refine lk_skip (dt := some 24) R38_2_N rfl rfl ⟨_, rfl, .inl ⟨_, rfl, gq rfl rfl⟩⟩ ?_
    refine lk_skip (dt := some 25) R38_2_N rfl rfl ⟨_, rfl, .inl ⟨_, rfl, gq rfl rfl⟩⟩ ?_
    refine lk (dt := some 26) R38_2_N rfl rfl rfl (ov_pickT rfl rfl rfl rfl rfl rfl rfl) ?_
    refine aops_nil ?_
    exact S38_1_ok Q E  _ r_0 r45 true aw46 h0 rfl rfl H
  · replace H := cnd_f H hb50
    refine lk (dt := some 13) R38_2_N rfl rfl ⟨_, rfl, .inl ⟨_, rfl, gq hb50 rfl⟩⟩ (opv_move rfl rfl h0) ?_
    obtain ⟨hp51, H⟩ := H
    refine lk (dt := some 14) R38_2_N rfl rfl ⟨_, rfl, .inl ⟨_, rfl, gq hb50 rfl⟩⟩ (ov_nck rfl rfl rfl hp51) ?_
    obtain ⟨b53, i54, p52, hp55, hv56, H⟩ := H
    refine lk (dt := some 15) R38_2_N rfl rfl ⟨_, rfl, .inl ⟨_, rfl, gq hb50 rfl⟩⟩ (ov_fldA rfl rfl underlying116 rfl sz4 (by decide) rfl hp55 rfl hv56) ?_
    obtain ⟨b57, i58, x60, hp59, hg61, H⟩ := H
    refine lk (dt := some 16) R38_2_N rfl rfl ⟨_, rfl, .inl ⟨_, rfl, gq hb50 rfl⟩⟩ (ov_ldB rfl underlying4 rfl rfl hp59 hg61) ?_
    refine lk (dt := some 17) R38_2_N rfl rfl rfl (ov_pickF rfl rfl rfl rfl rfl hb50 rfl) ?_
    refine lk (dt := some 18) R38_2_N rfl rfl rfl (opv_move rfl rfl rfl) ?_
    rcases Bool.eq_false_or_eq_true x60 with hb62 | hb62
    · replace H := cnd_t H hb62
      refine lk_skip (dt := some 19) R38_2_N rfl rfl ⟨_, rfl, .inl ⟨_, rfl, gq hb62 rfl⟩⟩ ?_
      refine lk_skip (dt := some 20) R38_2_N rfl rfl ⟨_, rfl, .inl ⟨_, rfl, gq hb62 rfl⟩⟩ ?_
      refine lk_skip (dt := some 21) R38_2_N rfl rfl ⟨_, rfl, .inl ⟨_, rfl, gq hb62 rfl⟩⟩ ?_
      refine lk_skip (dt := some 22) R38_2_N rfl rfl ⟨_, rfl, .inl ⟨_, rfl, gq hb62 rfl⟩⟩ ?_
      refine lk_skip (dt := some 23) R38_2_N rfl rfl ⟨_, rfl, .inl ⟨_, rfl, gq hb62 rfl⟩⟩ ?_
      refine lk_skip (dt := some 24) R38_2_N rfl rfl ⟨_, rfl, .inl ⟨_, rfl, gq hb62 rfl⟩⟩ ?_
      refine lk_skip (dt := some 25) R38_2_N rfl rfl ⟨_, rfl, .inl ⟨_, rfl, gq hb62 rfl⟩⟩ ?_
      refine lk (dt := some 26) R38_2_N rfl rfl rfl (ov_pickT rfl rfl rfl rfl rfl hb62 rfl) ?_
      refine aops_nil ?_
      exact S38_1_ok Q E  _ r_0 r45 true aw46 h0 rfl rfl H
    · replace H := cnd_f H hb62
      refine lk (dt := some 19) R38_2_N rfl rfl ⟨_, rfl, .inl ⟨_, rfl, gq hb62 rfl⟩⟩ (opv_move rfl rfl rfl) ?_
      refine lk (dt := some 20) R38_2_N rfl rfl ⟨_, rfl, .inl ⟨_, rfl, gq hb62 rfl⟩⟩ (opv_move rfl rfl h0) ?_
      obtain ⟨hp63, H⟩ := H
      refine lk (dt := some 21) R38_2_N rfl rfl ⟨_, rfl, .inl ⟨_, rfl, gq hb62 rfl⟩⟩ (ov_nck rfl rfl rfl hp63) ?_
      obtain ⟨b65, i66, p64, hp67, hv68, H⟩ := H
      refine lk (dt := some 22) R38_2_N rfl rfl ⟨_, rfl, .inl ⟨_, rfl, gq hb62 rfl⟩⟩ (ov_fldA rfl rfl underlying116 rfl sz25 (by decide) rfl hp67 rfl hv68) ?_
      obtain ⟨b69, i70, x72, hp71, hg73, H⟩ := H
      refine lk (dt := some 23) R38_2_N rfl rfl ⟨_, rfl, .inl ⟨_, rfl, gq hb62 rfl⟩⟩ (ov_ldV rfl underlying25 rfl rfl rfl hp71 hg73) ?_
      obtain ⟨q75, l76, c77, n74, hv78, hn79, H⟩ := H
      refine lk (dt := some 24) R38_2_N rfl rfl ⟨_, rfl, .inl ⟨_, rfl, gq hb62 rfl⟩⟩ (ov_len rfl rfl rfl underlying25 rfl hv78 hn79) ?_
      refine lk (dt := some 25) R38_2_N rfl rfl ⟨_, rfl, .inl ⟨_, rfl, gq hb62 rfl⟩⟩ (opv_gt rfl rfl rfl rfl rfl) ?_
      refine lk (dt := some 26) R38_2_N rfl rfl rfl (ov_pickF rfl rfl rfl rfl rfl hb62 rfl) ?_
      refine aops_nil ?_
      exact S38_1_ok Q E  _ r_0 r45 (decide (n74 < r45)) aw46 h0 rfl rfl H
theorem F38_ok {Q : Value → AW → Prop} {E : List PanicEntry → AW → Prop} (r_0 : Value) (most_1 : Int) (aw : AW) (H : S38_0 Q E r_0 most_1 aw) : CallP prog 38 [r_0, .int .i64 most_1] aw sh38 Q E :=
  callP_of func38 C38_is rfl (Nat.le_of_ble_eq_true rfl) (S38_0_ok Q E _ r_0 most_1 aw rfl rfl H)
def C33_0 : Code := bodyOf f33
theorem C33_is : f33.body = some C33_0 := by kernel_rfl
def C33_1 : Code := cl C33_0
def R33_0 : Array Oper := regOps C33_1
def C33_2 : Code := cr C33_0
def C33_3 : Code := cl C33_2
def R33_1 : Array Oper := regOps C33_3
def C33_4 : Code := cr C33_2
theorem R33_0_N : dstsOk 6 R33_0 = true := by decide +kernel
theorem E33_1 : C33_1 = .region 0 R33_0 false := rfl
theorem R33_1_N : dstsOk 6 R33_1 = true := by decide +kernel
theorem E33_3 : C33_3 = .region 1 R33_1 false := rfl
theorem E33_4 : C33_4 = .ret := rfl
theorem E33_2 : C33_2 = .seq C33_3 C33_4 := rfl
theorem E33_0 : C33_0 = .seq C33_1 C33_2 := rfl
def S33_0 (Q : Value → AW → Prop) (E : List PanicEntry → AW → Prop)  (p_0 : Value) (aw : AW) : Prop :=
  one p_0 = true ∧ alc aw [p_0, .bool false] 116 0 fun p2 aw3 =>
  Q p2 aw3
theorem S33_0_ok (Q : Value → AW → Prop) (E : List PanicEntry → AW → Prop)  (ρ : Env) (p_0 : Value) (aw : AW) (h0 : ρ 0 = p_0) (H : S33_0 Q E  p_0 aw) :
    AGo prog 6 [.code C33_0] ρ [] aw (RR prog f33 6 sh33 Q E) := by
  unfold S33_0 at H
  refine ago_seqE E33_0 ?_
  refine ago_regE E33_1 (l := [0]) rfl ?_
  refine lk (dt := some 2) R33_0_N rfl rfl rfl (opv_assign rfl rfl rfl) ?_
  refine aops_nil ?_
  refine ago_seqE E33_2 ?_
  refine ago_regE E33_3 (l := [0, 1, 2, 3]) rfl ?_
  refine lk (dt := some 3) R33_1_N rfl rfl rfl (opv_move rfl rfl h0) ?_
  obtain ⟨h11, H⟩ := H
  refine lk (dt := some 4) R33_1_N rfl rfl rfl (ov_bld (r := [p_0, .bool false]) rfl rfl bo116 (mp_cons rfl rfl) (fillP (cells_one h11) rfl rfl rfl (fillN rfl))) ?_
  obtain ⟨p2, aw3, hp4, ha5, H⟩ := H
  refine lk (dt := some 5) R33_1_N rfl rfl rfl (ov_box rfl rfl rfl rfl hp4 ha5) ?_
  refine lk (dt := some 2) R33_1_N rfl rfl rfl (opv_assign rfl rfl rfl) ?_
  refine aops_nil ?_
  exact ago_retE E33_4 (r := p2) (ares_1 rfl (oneT rfl)) rfl H
theorem F33_ok {Q : Value → AW → Prop} {E : List PanicEntry → AW → Prop} (p_0 : Value) (aw : AW) (H : S33_0 Q E p_0 aw) : CallP prog 33 [p_0] aw sh33 Q E :=
  callP_of func33 C33_is rfl (Nat.le_of_ble_eq_true rfl) (S33_0_ok Q E _ p_0 aw rfl H)
def C65_0 : Code := bodyOf f65
theorem C65_is : f65.body = some C65_0 := by kernel_rfl
def C65_1 : Code := cl C65_0
def R65_0 : Array Oper := regOps C65_1
def C65_2 : Code := cr C65_0
def C65_3 : Code := cl C65_2
def R65_1 : Array Oper := regOps C65_3
def C65_4 : Code := cr C65_2
def C65_5 : Code := cl C65_4
def C65_6 : Code := cl C65_5
def R65_2 : Array Oper := regOps C65_6
def C65_7 : Code := cr C65_5
def C65_8 : Code := cl C65_7
def C65_9 : Code := cl C65_8
def C65_10 : Code := cl C65_9
def R65_3 : Array Oper := regOps C65_10
def C65_11 : Code := cr C65_9
def C65_12 : Code := cl C65_11
def C65_13 : Code := cl C65_12
def C65_14 : Code := cr C65_12
def C65_15 : Code := cr C65_11
def C65_16 : Code := cl C65_15
def C65_17 : Code := cl C65_16
def C65_18 : Code := cl C65_17
def R65_4 : Array Oper := regOps C65_18
def C65_19 : Code := cr C65_17
def C65_20 : Code := cl C65_19
def R65_5 : Array Oper := regOps C65_20
def C65_21 : Code := cr C65_19
def C65_22 : Code := cl C65_21
def R65_6 : Array Oper := regOps C65_22
def C65_23 : Code := cr C65_21
def C65_24 : Code := cl C65_23
def C65_25 : Code := cl C65_24
def C65_26 : Code := cl C65_25
def R65_7 : Array Oper := regOps C65_26
def C65_27 : Code := cr C65_25
def C65_28 : Code := cl C65_27
def C65_29 : Code := cl C65_28
def C65_30 : Code := cr C65_28
def C65_31 : Code := cr C65_27
def C65_32 : Code := cl C65_31
def C65_33 : Code := cl C65_32
def R65_8 : Array Oper := regOps C65_33
def C65_34 : Code := cr C65_31
def R65_9 : Array Oper := regOps C65_34
def C65_35 : Code := cr C65_15
def R65_10 : Array Oper := regOps C65_35
def C65_36 : Code := cr C65_4
def C65_37 : Code := cl C65_36
def R65_11 : Array Oper := regOps C65_37
def C65_38 : Code := cr C65_36
theorem R65_0_N : dstsOk 29 R65_0 = true := by decide +kernel
theorem E65_1 : C65_1 = .region 0 R65_0 false := rfl
theorem R65_1_N : dstsOk 29 R65_1 = true := by decide +kernel
theorem E65_3 : C65_3 = .region 1 R65_1 false := rfl
theorem R65_2_N : dstsOk 29 R65_2 = true := by decide +kernel
theorem E65_6 : C65_6 = .region 2 R65_2 false := rfl
theorem R65_3_N : dstsOk 29 R65_3 = true := by decide +kernel
theorem E65_10 : C65_10 = .region 3 R65_3 false := rfl
theorem E65_13 : C65_13 = .skip := rfl
theorem E65_14 : C65_14 = .exit 0 := rfl
theorem E65_12 : C65_12 = .cond (.tmp 9) C65_13 C65_14 := rfl
theorem R65_4_N : dstsOk 29 R65_4 = true := by decide +kernel
theorem E65_18 : C65_18 = .region 4 R65_4 false := rfl
theorem R65_5_N : dstsOk 29 R65_5 = true := by decide +kernel
theorem E65_20 : C65_20 = .region 5 R65_5 false := rfl
theorem R65_6_N : dstsOk 29 R65_6 = true := by decide +kernel
theorem E65_22 : C65_22 = .region 6 R65_6 false := rfl
theorem R65_7_N : dstsOk 29 R65_7 = true := by decide +kernel
theorem E65_26 : C65_26 = .region 7 R65_7 false := rfl
theorem E65_29 : C65_29 = .skip := rfl
theorem E65_30 : C65_30 = .exit 2 := rfl
theorem E65_28 : C65_28 = .cond (.tmp 17) C65_29 C65_30 := rfl
theorem R65_8_N : dstsOk 29 R65_8 = true := by decide +kernel
theorem E65_33 : C65_33 = .region 8 R65_8 false := rfl
theorem E65_32 : C65_32 = .block 3 C65_33 := rfl
theorem R65_9_N : dstsOk 29 R65_9 = true := by decide +kernel
theorem E65_34 : C65_34 = .region 9 R65_9 false := rfl
theorem E65_31 : C65_31 = .seq C65_32 C65_34 := rfl
theorem E65_27 : C65_27 = .seq C65_28 C65_31 := rfl
theorem E65_25 : C65_25 = .seq C65_26 C65_27 := rfl
theorem E65_24 : C65_24 = .loop C65_25 := rfl
theorem E65_23 : C65_23 = .block 2 C65_24 := rfl
theorem E65_21 : C65_21 = .seq C65_22 C65_23 := rfl
theorem E65_19 : C65_19 = .seq C65_20 C65_21 := rfl
theorem E65_17 : C65_17 = .seq C65_18 C65_19 := rfl
theorem E65_16 : C65_16 = .block 1 C65_17 := rfl
theorem R65_10_N : dstsOk 29 R65_10 = true := by decide +kernel
theorem E65_35 : C65_35 = .region 10 R65_10 false := rfl
theorem E65_15 : C65_15 = .seq C65_16 C65_35 := rfl
theorem E65_11 : C65_11 = .seq C65_12 C65_15 := rfl
theorem E65_9 : C65_9 = .seq C65_10 C65_11 := rfl
theorem E65_8 : C65_8 = .loop C65_9 := rfl
theorem E65_7 : C65_7 = .block 0 C65_8 := rfl
theorem E65_5 : C65_5 = .seq C65_6 C65_7 := rfl
theorem R65_11_N : dstsOk 29 R65_11 = true := by decide +kernel
theorem E65_37 : C65_37 = .region 11 R65_11 false := rfl
theorem E65_38 : C65_38 = .ret := rfl
theorem E65_36 : C65_36 = .seq C65_37 C65_38 := rfl
theorem E65_4 : C65_4 = .seq C65_5 C65_36 := rfl
theorem E65_2 : C65_2 = .seq C65_3 C65_4 := rfl
theorem E65_0 : C65_0 = .seq C65_1 C65_2 := rfl
def S65_2s (Q : Int → AW → Prop) (E : List PanicEntry → AW → Prop) (nx1 : Int → Value → Int → Int → AW → Prop) (nx2 : Int → Value → Int → Int → Int → AW → Prop) (c_3 : Int) (t_6 : Value) (t_7 : Int) (t_8 : Int) (t_16 : Int) (aw : AW) : Prop :=
  cnd (decide (t_16 < 8)) (nx2 (bitsOf .xor .u32 (Int.fdiv c_3 (2 ^ (min (1 : Int).toNat IntKind.u32.bits))) (bitsOf .and .u32 2197175160 (IntKind.u32.wrap (-(bitsOf .and .u32 c_3 1))))) t_6 t_7 t_8 (IntKind.i64.wrap (t_16 + 1)) aw) (nx1 c_3 t_6 t_7 (IntKind.i64.wrap (t_8 + 1)) aw)
def S65_2 (Q : Int → AW → Prop) (E : List PanicEntry → AW → Prop) (nx1 : Int → Value → Int → Int → AW → Prop) : Nat → Int → Value → Int → Int → Int → AW → Prop
  | 0 => fun _ _ _ _ _ _ => False
  | n + 1 => S65_2s Q E nx1 (S65_2 Q E nx1 n)
def S65_1s (Q : Int → AW → Prop) (E : List PanicEntry → AW → Prop)  (nx1 : Int → Value → Int → Int → AW → Prop) (c_3 : Int) (t_6 : Value) (t_7 : Int) (t_8 : Int) (aw : AW) : Prop :=
  cnd (decide (t_8 < t_7)) (ixS t_6 t_8 1 fun p3 =>
  ldI .u8 aw p3 fun x15 =>
  ∃ n, S65_2 Q E nx1 n (bitsOf .xor .u32 c_3 (IntKind.u32.wrap x15)) t_6 t_7 t_8 0 aw) (Q (bitsOf .xor .u32 (if IntKind.u32.signed then -1 else IntKind.u32.max) c_3) aw)
def S65_1 (Q : Int → AW → Prop) (E : List PanicEntry → AW → Prop)  : Nat → Int → Value → Int → Int → AW → Prop
  | 0 => fun _ _ _ _ _ => False
  | n + 1 => S65_1s Q E  (S65_1 Q E  n)
def S65_0 (Q : Int → AW → Prop) (E : List PanicEntry → AW → Prop)  (p_0 : Value) (aw : AW) : Prop :=
  slen p_0 fun n17 =>
  ∃ n, S65_1 Q E  n 4294967295 p_0 n17 0 aw
theorem S65_2s_ok (Q : Int → AW → Prop) (E : List PanicEntry → AW → Prop) (nx1 : Int → Value → Int → Int → AW → Prop) (L1 : ∀ (ρ : Env) (c_3 : Int) (t_6 : Value) (t_7 : Int) (t_8 : Int) (aw : AW) (h3 : ρ 3 = .int .u32 c_3) (h6 : ρ 6 = t_6) (h7 : ρ 7 = .int .i64 t_7) (h8 : ρ 8 = .int .i64 t_8), nx1 c_3 t_6 t_7 t_8 aw → AGo prog 29 [.code C65_9, .inLoop C65_9, .inBlock 0, .code C65_36] ρ [] aw (RR prog f65 29 sh65 Q E)) (nx2 : Int → Value → Int → Int → Int → AW → Prop) (L2 : ∀ (ρ : Env) (c_3 : Int) (t_6 : Value) (t_7 : Int) (t_8 : Int) (t_16 : Int) (aw : AW) (h3 : ρ 3 = .int .u32 c_3) (h6 : ρ 6 = t_6) (h7 : ρ 7 = .int .i64 t_7) (h8 : ρ 8 = .int .i64 t_8) (h16 : ρ 16 = .int .i64 t_16), nx2 c_3 t_6 t_7 t_8 t_16 aw → AGo prog 29 [.code C65_25, .inLoop C65_25, .inBlock 2, .inBlock 1, .code C65_35, .inLoop C65_9, .inBlock 0, .code C65_36] ρ [] aw (RR prog f65 29 sh65 Q E)) (ρ : Env) (c_3 : Int) (t_6 : Value) (t_7 : Int) (t_8 : Int) (t_16 : Int) (aw : AW) (h3 : ρ 3 = .int .u32 c_3) (h6 : ρ 6 = t_6) (h7 : ρ 7 = .int .i64 t_7) (h8 : ρ 8 = .int .i64 t_8) (h16 : ρ 16 = .int .i64 t_16) (H : S65_2s Q E nx1 nx2 c_3 t_6 t_7 t_8 t_16 aw) :
    AGo prog 29 [.code C65_25, .inLoop C65_25, .inBlock 2, .inBlock 1, .code C65_35, .inLoop C65_9, .inBlock 0, .code C65_36] ρ [] aw (RR prog f65 29 sh65 Q E) := by
  unfold S65_2s at H
  refine ago_seqE E65_25 ?_
  refine ago_regE E65_26 (l := [0]) rfl ?_
  refine lk (dt := some 17) R65_7_N rfl rfl rfl (opv_lt rfl rfl rfl h16 rfl) ?_
  refine aops_nil ?_
  refine ago_seqE E65_27 ?_
  refine ago_condE  E65_28 rfl rfl (fun hb1 => ?_) (fun hb1 => ?_)
  · replace H := cnd_t H hb1
    refine ago_skipE E65_29 ?_
    refine ago_seqE E65_31 ?_
    refine ago_blockE E65_32 ?_
    refine ago_regE E65_33 (l := [0, 1, 2, 3, 4, 5, 6, 7]) rfl ?_
    refine lk (dt := some 18) R65_8_N rfl rfl rfl (opv_move rfl rfl h3) ?_
    refine lk (dt := some 19) R65_8_N rfl rfl rfl (opv_shr rfl rfl rfl rfl rfl (by decide)) ?_
    refine lk (dt := some 20) R65_8_N rfl rfl rfl (opv_move rfl rfl h3) ?_
    refine lk (dt := some 21) R65_8_N rfl rfl rfl (opv_and rfl rfl rfl rfl rfl) ?_
    refine lk (dt := some 22) R65_8_N rfl rfl rfl (opv_neg rfl rfl rfl) ?_
    refine lk (dt := some 23) R65_8_N rfl rfl rfl (opv_and rfl rfl rfl rfl rfl) ?_
    refine lk (dt := some 24) R65_8_N rfl rfl rfl (opv_xor rfl rfl rfl rfl rfl) ?_
    refine lk (dt := some 3) R65_8_N rfl rfl rfl (opv_assign rfl rfl rfl) ?_
    refine aops_nil ?_
    refine ago_inBlock ?_
    refine ago_regE E65_34 (l := [0, 1]) rfl ?_
    refine lk (dt := some 25) R65_9_N rfl rfl rfl (opv_add rfl rfl rfl h16 rfl) ?_
    refine lk (dt := some 16) R65_9_N rfl rfl rfl (opv_move rfl rfl rfl) ?_
    refine aops_nil ?_
    refine ago_inLoop ?_
    exact L2 _ (bitsOf .xor .u32 (Int.fdiv c_3 (2 ^ (min (1 : Int).toNat IntKind.u32.bits))) (bitsOf .and .u32 2197175160 (IntKind.u32.wrap (-(bitsOf .and .u32 c_3 1))))) t_6 t_7 t_8 (IntKind.i64.wrap (t_16 + 1)) aw rfl h6 h7 h8 rfl H
  · replace H := cnd_f H hb1
    refine ago_exitE E65_30 rfl ?_
    refine ago_inBlock ?_
    refine ago_regE E65_35 (l := [0, 1]) rfl ?_
    refine lk (dt := some 26) R65_10_N rfl rfl rfl (opv_add rfl rfl rfl h8 rfl) ?_
    refine lk (dt := some 8) R65_10_N rfl rfl rfl (opv_move rfl rfl rfl) ?_
    refine aops_nil ?_
    refine ago_inLoop ?_
    exact L1 _ c_3 t_6 t_7 (IntKind.i64.wrap (t_8 + 1)) aw h3 h6 h7 rfl H
theorem S65_2_ok (Q : Int → AW → Prop) (E : List PanicEntry → AW → Prop) (nx1 : Int → Value → Int → Int → AW → Prop) (L1 : ∀ (ρ : Env) (c_3 : Int) (t_6 : Value) (t_7 : Int) (t_8 : Int) (aw : AW) (h3 : ρ 3 = .int .u32 c_3) (h6 : ρ 6 = t_6) (h7 : ρ 7 = .int .i64 t_7) (h8 : ρ 8 = .int .i64 t_8), nx1 c_3 t_6 t_7 t_8 aw → AGo prog 29 [.code C65_9, .inLoop C65_9, .inBlock 0, .code C65_36] ρ [] aw (RR prog f65 29 sh65 Q E)) : ∀ (n : Nat) (ρ : Env) (c_3 : Int) (t_6 : Value) (t_7 : Int) (t_8 : Int) (t_16 : Int) (aw : AW) (h3 : ρ 3 = .int .u32 c_3) (h6 : ρ 6 = t_6) (h7 : ρ 7 = .int .i64 t_7) (h8 : ρ 8 = .int .i64 t_8) (h16 : ρ 16 = .int .i64 t_16), S65_2 Q E nx1 n c_3 t_6 t_7 t_8 t_16 aw →
    AGo prog 29 [.code C65_25, .inLoop C65_25, .inBlock 2, .inBlock 1, .code C65_35, .inLoop C65_9, .inBlock 0, .code C65_36] ρ [] aw (RR prog f65 29 sh65 Q E)
  | 0, _, _, _, _, _, _, _, _, _, _, _, _ => fun H => H.elim
  | n + 1, ρ, c_3, t_6, t_7, t_8, t_16, aw, h3, h6, h7, h8, h16 => fun H => S65_2s_ok Q E nx1 L1 _ (S65_2_ok Q E nx1 L1 n) ρ c_3 t_6 t_7 t_8 t_16 aw h3 h6 h7 h8 h16 H
theorem S65_1s_ok (Q : Int → AW → Prop) (E : List PanicEntry → AW → Prop)  (nx1 : Int → Value → Int → Int → AW → Prop) (L1 : ∀ (ρ : Env) (c_3 : Int) (t_6 : Value) (t_7 : Int) (t_8 : Int) (aw : AW) (h3 : ρ 3 = .int .u32 c_3) (h6 : ρ 6 = t_6) (h7 : ρ 7 = .int .i64 t_7) (h8 : ρ 8 = .int .i64 t_8), nx1 c_3 t_6 t_7 t_8 aw → AGo prog 29 [.code C65_9, .inLoop C65_9, .inBlock 0, .code C65_36] ρ [] aw (RR prog f65 29 sh65 Q E)) (ρ : Env) (c_3 : Int) (t_6 : Value) (t_7 : Int) (t_8 : Int) (aw : AW) (h3 : ρ 3 = .int .u32 c_3) (h6 : ρ 6 = t_6) (h7 : ρ 7 = .int .i64 t_7) (h8 : ρ 8 = .int .i64 t_8) (H : S65_1s Q E  nx1 c_3 t_6 t_7 t_8 aw) :
    AGo prog 29 [.code C65_9, .inLoop C65_9, .inBlock 0, .code C65_36] ρ [] aw (RR prog f65 29 sh65 Q E) := by
  unfold S65_1s at H
  refine ago_seqE E65_9 ?_
  refine ago_regE E65_10 (l := [0]) rfl ?_
  refine lk (dt := some 9) R65_3_N rfl rfl rfl (opv_lt rfl rfl rfl h8 h7) ?_
  refine aops_nil ?_
  refine ago_seqE E65_11 ?_
  refine ago_condE  E65_12 rfl rfl (fun hb2 => ?_) (fun hb2 => ?_)
  · replace H := cnd_t H hb2
    refine ago_skipE E65_13 ?_
    refine ago_seqE E65_15 ?_
    refine ago_blockE E65_16 ?_
    refine ago_seqE E65_17 ?_
    refine ago_regE E65_18 (l := [0, 1, 2]) rfl ?_
    obtain ⟨b4, i5, l6, c7, p3, hp8, h09, hj10, hv11, H⟩ := H
    refine lk (dt := some 10) R65_4_N rfl rfl rfl (ov_ixS rfl rfl rfl underlying25 sz5 h6 h8 hp8 h09 hj10 hv11) ?_
    obtain ⟨b12, i13, x15, hp14, hg16, H⟩ := H
    refine lk (dt := some 11) R65_4_N rfl rfl rfl (ov_ldI rfl underlying5 rfl rfl hp14 hg16) ?_
    refine lk (dt := some 5) R65_4_N rfl rfl rfl (opv_assign rfl rfl rfl) ?_
    refine aops_nil ?_
    refine ago_seqE E65_19 ?_
    refine ago_regE E65_20 (l := [0, 1, 2, 3, 4]) rfl ?_
    refine lk (dt := some 12) R65_5_N rfl rfl rfl (opv_move rfl rfl h3) ?_
    refine lk (dt := some 13) R65_5_N rfl rfl rfl (opv_move rfl rfl rfl) ?_
    refine lk (dt := some 14) R65_5_N rfl rfl rfl (opv_conv rfl rfl underlying5 underlying119 rfl) ?_
    refine lk (dt := some 15) R65_5_N rfl rfl rfl (opv_xor rfl rfl rfl rfl rfl) ?_
    refine lk (dt := some 3) R65_5_N rfl rfl rfl (opv_assign rfl rfl rfl) ?_
    refine aops_nil ?_
    refine ago_seqE E65_21 ?_
    refine ago_regE E65_22 (l := [0]) rfl ?_
    refine lk (dt := some 16) R65_6_N rfl rfl rfl (opv_move rfl rfl rfl) ?_
    refine aops_nil ?_
    refine ago_blockE E65_23 ?_
    refine ago_loopE E65_24 ?_
    obtain ⟨n, H⟩ := H
    exact S65_2_ok Q E nx1 L1 n _ (bitsOf .xor .u32 c_3 (IntKind.u32.wrap x15)) t_6 t_7 t_8 0 aw rfl h6 h7 h8 rfl H
  · replace H := cnd_f H hb2
    refine ago_exitE E65_14 rfl ?_
    refine ago_seqE E65_36 ?_
    refine ago_regE E65_37 (l := [0, 1, 2]) rfl ?_
    refine lk (dt := some 27) R65_11_N rfl rfl rfl (opv_move rfl rfl h3) ?_
    refine lk (dt := some 28) R65_11_N rfl rfl rfl (opv_compl rfl rfl rfl) ?_
    refine lk (dt := some 2) R65_11_N rfl rfl rfl (opv_assign rfl rfl rfl) ?_
    refine aops_nil ?_
    exact ago_retE E65_38 (r := (bitsOf .xor .u32 (if IntKind.u32.signed then -1 else IntKind.u32.max) c_3)) (ares_1 rfl (oneT rfl)) rfl H
theorem S65_1_ok (Q : Int → AW → Prop) (E : List PanicEntry → AW → Prop)  : ∀ (n : Nat) (ρ : Env) (c_3 : Int) (t_6 : Value) (t_7 : Int) (t_8 : Int) (aw : AW) (h3 : ρ 3 = .int .u32 c_3) (h6 : ρ 6 = t_6) (h7 : ρ 7 = .int .i64 t_7) (h8 : ρ 8 = .int .i64 t_8), S65_1 Q E  n c_3 t_6 t_7 t_8 aw →
    AGo prog 29 [.code C65_9, .inLoop C65_9, .inBlock 0, .code C65_36] ρ [] aw (RR prog f65 29 sh65 Q E)
  | 0, _, _, _, _, _, _, _, _, _, _ => fun H => H.elim
  | n + 1, ρ, c_3, t_6, t_7, t_8, aw, h3, h6, h7, h8 => fun H => S65_1s_ok Q E  _ (S65_1_ok Q E  n) ρ c_3 t_6 t_7 t_8 aw h3 h6 h7 h8 H
theorem S65_0_ok (Q : Int → AW → Prop) (E : List PanicEntry → AW → Prop)  (ρ : Env) (p_0 : Value) (aw : AW) (h0 : ρ 0 = p_0) (H : S65_0 Q E  p_0 aw) :
    AGo prog 29 [.code C65_0] ρ [] aw (RR prog f65 29 sh65 Q E) := by
  unfold S65_0 at H
  refine ago_seqE E65_0 ?_
  refine ago_regE E65_1 (l := [0]) rfl ?_
  refine lk (dt := some 2) R65_0_N rfl rfl rfl (opv_assign rfl rfl rfl) ?_
  refine aops_nil ?_
  refine ago_seqE E65_2 ?_
  refine ago_regE E65_3 (l := [0]) rfl ?_
  refine lk (dt := some 3) R65_1_N rfl rfl rfl (opv_assign rfl rfl rfl) ?_
  refine aops_nil ?_
  refine ago_seqE E65_4 ?_
  refine ago_seqE E65_5 ?_
  refine ago_regE E65_6 (l := [0, 1, 2]) rfl ?_
  refine lk (dt := some 6) R65_2_N rfl rfl rfl (opv_move rfl rfl h0) ?_
  obtain ⟨q18, l19, c20, n17, hv21, hn22, H⟩ := H
  refine lk (dt := some 7) R65_2_N rfl rfl rfl (ov_len rfl rfl rfl underlying25 rfl hv21 hn22) ?_
  refine lk (dt := some 8) R65_2_N rfl rfl rfl (opv_move rfl rfl rfl) ?_
  refine aops_nil ?_
  refine ago_blockE E65_7 ?_
  refine ago_loopE E65_8 ?_
  obtain ⟨n, H⟩ := H
  exact S65_1_ok Q E  n _ 4294967295 p_0 n17 0 aw rfl rfl rfl rfl H
theorem F65_ok {Q : Int → AW → Prop} {E : List PanicEntry → AW → Prop} (p_0 : Value) (aw : AW) (H : S65_0 Q E p_0 aw) : CallP prog 65 [p_0] aw sh65 Q E :=
  callP_of func65 C65_is rfl (Nat.le_of_ble_eq_true rfl) (S65_0_ok Q E _ p_0 aw rfl H)
def C49_0 : Code := bodyOf f49
theorem C49_is : f49.body = some C49_0 := by kernel_rfl
def C49_1 : Code := cl C49_0
def R49_0 : Array Oper := regOps C49_1
def C49_2 : Code := cr C49_0
def C49_3 : Code := cl C49_2
def R49_1 : Array Oper := regOps C49_3
def C49_4 : Code := cr C49_2
def C49_5 : Code := cl C49_4
def R49_2 : Array Oper := regOps C49_5
def C49_6 : Code := cr C49_4
theorem R49_0_N : dstsOk 21 R49_0 = true := by decide +kernel
theorem E49_1 : C49_1 = .region 0 R49_0 false := rfl
theorem R49_1_N : dstsOk 21 R49_1 = true := by decide +kernel
theorem E49_3 : C49_3 = .region 1 R49_1 false := rfl
theorem R49_2_N : dstsOk 21 R49_2 = true := by decide +kernel
theorem E49_5 : C49_5 = .region 2 R49_2 false := rfl
theorem E49_6 : C49_6 = .ret := rfl
theorem E49_4 : C49_4 = .seq C49_5 C49_6 := rfl
theorem E49_2 : C49_2 = .seq C49_3 C49_4 := rfl
theorem E49_0 : C49_0 = .seq C49_1 C49_2 := rfl
def S49_0 (Q : Value → AW → Prop) (E : List PanicEntry → AW → Prop)  (p_0 : Value) (aw : AW) : Prop :=
  CallP prog 65 [p_0] aw sh65 (fun r1 aw2 =>
  CallP prog 57 [p_0] aw2 sh57 (fun r3 aw4 =>
  alcS aw4 [.int .u8 (IntKind.u8.wrap r1), .int .u8 (IntKind.u8.wrap (Int.fdiv r1 (2 ^ (min (8 : Int).toNat IntKind.u32.bits)))), .int .u8 (IntKind.u8.wrap (Int.fdiv r1 (2 ^ (min (16 : Int).toNat IntKind.u32.bits)))), .int .u8 (IntKind.u8.wrap (Int.fdiv r1 (2 ^ (min (24 : Int).toNat IntKind.u32.bits))))] 5 1 4 fun p5 aw6 =>
  app aw6 5 1 1 r3 p5 fun v9 aw10 =>
  Q v9 aw10) E) E
theorem S49_0_ok (Q : Value → AW → Prop) (E : List PanicEntry → AW → Prop)  (ρ : Env) (p_0 : Value) (aw : AW) (h0 : ρ 0 = p_0) (H : S49_0 Q E  p_0 aw) :
    AGo prog 21 [.code C49_0] ρ [] aw (RR prog f49 21 sh49 Q E) := by
  unfold S49_0 at H
  refine ago_seqE E49_0 ?_
  refine ago_regE E49_1 (l := [0]) rfl ?_
  refine lk (dt := some 2) R49_0_N rfl rfl rfl (opv_assign rfl rfl rfl) ?_
  refine aops_nil ?_
  refine ago_seqE E49_2 ?_
  refine ago_regE E49_3 (l := [0, 1, 2]) rfl ?_
  refine lk (dt := some 4) R49_1_N rfl rfl rfl (opv_move rfl rfl h0) ?_
  refine lk_call (dt := some 5) R49_1_N rfl rfl rfl (opc_of rfl rfl is65 (ma_cons rfl rfl)) H (fun _ _ h => ⟨rfl, h⟩) fun r1 aw2 H => ?_
  refine lk (dt := some 3) R49_1_N rfl rfl rfl (opv_assign rfl rfl rfl) ?_
  refine aops_nil ?_
  refine ago_seqE E49_4 ?_
  refine ago_regE E49_5 (l := [0, 1, 2, 3, 4, 5, 6, 7, 8, 9, 10, 11, 12, 13, 14, 15]) rfl ?_
  refine lk (dt := some 6) R49_2_N rfl rfl rfl (opv_move rfl rfl h0) ?_
  refine lk_call (dt := some 7) R49_2_N rfl rfl rfl (opc_of rfl rfl is57 (ma_cons rfl rfl)) H (fun _ _ h => ⟨rfl, h⟩) fun r3 aw4 H => ?_
  refine lk (dt := some 8) R49_2_N rfl rfl rfl (opv_move rfl rfl rfl) ?_
  refine lk (dt := some 9) R49_2_N rfl rfl rfl (opv_conv rfl rfl underlying119 underlying5 rfl) ?_
  refine lk (dt := some 10) R49_2_N rfl rfl rfl (opv_move rfl rfl rfl) ?_
  refine lk (dt := some 11) R49_2_N rfl rfl rfl (opv_shr rfl rfl rfl rfl rfl (by decide)) ?_
  refine lk (dt := some 12) R49_2_N rfl rfl rfl (opv_conv rfl rfl underlying119 underlying5 rfl) ?_
  refine lk (dt := some 13) R49_2_N rfl rfl rfl (opv_move rfl rfl rfl) ?_
  refine lk (dt := some 14) R49_2_N rfl rfl rfl (opv_shr rfl rfl rfl rfl rfl (by decide)) ?_
  refine lk (dt := some 15) R49_2_N rfl rfl rfl (opv_conv rfl rfl underlying119 underlying5 rfl) ?_
  refine lk (dt := some 16) R49_2_N rfl rfl rfl (opv_move rfl rfl rfl) ?_
  refine lk (dt := some 17) R49_2_N rfl rfl rfl (opv_shr rfl rfl rfl rfl rfl (by decide)) ?_
  refine lk (dt := some 18) R49_2_N rfl rfl rfl (opv_conv rfl rfl underlying119 underlying5 rfl) ?_
  obtain ⟨p5, aw6, hp7, ha8, H⟩ := H
  refine lk (dt := some 19) R49_2_N rfl rfl rfl (ov_bsA (r := [.int .u8 (IntKind.u8.wrap r1), .int .u8 (IntKind.u8.wrap (Int.fdiv r1 (2 ^ (min (8 : Int).toNat IntKind.u32.bits)))), .int .u8 (IntKind.u8.wrap (Int.fdiv r1 (2 ^ (min (16 : Int).toNat IntKind.u32.bits)))), .int .u8 (IntKind.u8.wrap (Int.fdiv r1 (2 ^ (min (24 : Int).toNat IntKind.u32.bits))))]) (vs := [.int .u8 (IntKind.u8.wrap r1), .int .u8 (IntKind.u8.wrap (Int.fdiv r1 (2 ^ (min (8 : Int).toNat IntKind.u32.bits)))), .int .u8 (IntKind.u8.wrap (Int.fdiv r1 (2 ^ (min (16 : Int).toNat IntKind.u32.bits)))), .int .u8 (IntKind.u8.wrap (Int.fdiv r1 (2 ^ (min (24 : Int).toNat IntKind.u32.bits))))]) rfl rfl underlying25 sz5 z5 rfl rfl rfl rfl rfl (mp_cons rfl (mp_cons rfl (mp_cons rfl (mp_cons rfl rfl)))) (.one rfl (.one rfl (.one rfl (.one rfl .nil)))) hp7 ha8) ?_
  obtain ⟨v9, aw10, hq11, H⟩ := H
  refine lk (dt := some 20) R49_2_N rfl rfl rfl (ov_app rfl rfl rfl rfl underlying25 sz5 by5 underlying25 rfl z5 rfl (by decide) (by decide) rfl rfl hq11) ?_
  refine lk (dt := some 2) R49_2_N rfl rfl rfl (opv_assign rfl rfl rfl) ?_
  refine aops_nil ?_
  exact ago_retE E49_6 (r := v9) (ares_1 rfl (oneT rfl)) rfl H
theorem F49_ok {Q : Value → AW → Prop} {E : List PanicEntry → AW → Prop} (p_0 : Value) (aw : AW) (H : S49_0 Q E p_0 aw) : CallP prog 49 [p_0] aw sh49 Q E :=
  callP_of func49 C49_is rfl (Nat.le_of_ble_eq_true rfl) (S49_0_ok Q E _ p_0 aw rfl H)
def C32_0 : Code := bodyOf f32
theorem C32_is : f32.body = some C32_0 := by kernel_rfl
def C32_1 : Code := cl C32_0
def R32_0 : Array Oper := regOps C32_1
def C32_2 : Code := cr C32_0
def C32_3 : Code := cl C32_2
def R32_1 : Array Oper := regOps C32_3
def C32_4 : Code := cr C32_2
def C32_5 : Code := cl C32_4
def C32_6 : Code := cl C32_5
def R32_2 : Array Oper := regOps C32_6
def C32_7 : Code := cr C32_5
def C32_8 : Code := cl C32_7
def C32_9 : Code := cl C32_8
def R32_3 : Array Oper := regOps C32_9
def C32_10 : Code := cr C32_8
def C32_11 : Code := cr C32_7
def C32_12 : Code := cr C32_4
def C32_13 : Code := cl C32_12
def C32_14 : Code := cl C32_13
def R32_4 : Array Oper := regOps C32_14
def C32_15 : Code := cr C32_13
def C32_16 : Code := cl C32_15
def C32_17 : Code := cl C32_16
def R32_5 : Array Oper := regOps C32_17
def C32_18 : Code := cr C32_16
def C32_19 : Code := cr C32_15
def C32_20 : Code := cr C32_12
def C32_21 : Code := cl C32_20
def R32_6 : Array Oper := regOps C32_21
def C32_22 : Code := cr C32_20
theorem R32_0_N : dstsOk 21 R32_0 = true := by decide +kernel
theorem E32_1 : C32_1 = .region 0 R32_0 false := rfl
theorem R32_1_N : dstsOk 21 R32_1 = true := by decide +kernel
theorem E32_3 : C32_3 = .region 1 R32_1 false := rfl
theorem R32_2_N : dstsOk 21 R32_2 = true := by decide +kernel
theorem E32_6 : C32_6 = .region 2 R32_2 false := rfl
theorem R32_3_N : dstsOk 21 R32_3 = true := by decide +kernel
theorem E32_9 : C32_9 = .region 3 R32_3 false := rfl
theorem E32_10 : C32_10 = .ret := rfl
theorem E32_8 : C32_8 = .seq C32_9 C32_10 := rfl
theorem E32_11 : C32_11 = .skip := rfl
theorem E32_7 : C32_7 = .cond (.tmp 9) C32_8 C32_11 := rfl
theorem E32_5 : C32_5 = .seq C32_6 C32_7 := rfl
theorem R32_4_N : dstsOk 21 R32_4 = true := by decide +kernel
theorem E32_14 : C32_14 = .region 4 R32_4 false := rfl
theorem R32_5_N : dstsOk 21 R32_5 = true := by decide +kernel
theorem E32_17 : C32_17 = .region 5 R32_5 false := rfl
theorem E32_18 : C32_18 = .ret := rfl
theorem E32_16 : C32_16 = .seq C32_17 C32_18 := rfl
theorem E32_19 : C32_19 = .skip := rfl
theorem E32_15 : C32_15 = .cond (.tmp 16) C32_16 C32_19 := rfl
theorem E32_13 : C32_13 = .seq C32_14 C32_15 := rfl
theorem R32_6_N : dstsOk 21 R32_6 = true := by decide +kernel
theorem E32_21 : C32_21 = .region 6 R32_6 false := rfl
theorem E32_22 : C32_22 = .ret := rfl
theorem E32_20 : C32_20 = .seq C32_21 C32_22 := rfl
theorem E32_12 : C32_12 = .seq C32_13 C32_20 := rfl
theorem E32_4 : C32_4 = .seq C32_5 C32_12 := rfl
theorem E32_2 : C32_2 = .seq C32_3 C32_4 := rfl
theorem E32_0 : C32_0 = .seq C32_1 C32_2 := rfl
def S32_0 (Q : (Value × Int) → AW → Prop) (E : List PanicEntry → AW → Prop)  (p_0 : Value) (aw : AW) : Prop :=
  slen p_0 fun n1 =>
  cnd (decide ((IntKind.i64.wrap (n1 - 4)) < 0)) (Q ((.slice none 0 0), 3) aw) (cutV aw 1 p_0 0 (IntKind.i64.wrap (n1 - 4)) fun v8 =>
  CallP prog 49 [v8] aw sh49 (fun r10 aw11 =>
  CallP prog 62 [r10, p_0] aw11 sh62 (fun r12 aw13 =>
  cnd (!r12) (Q ((.slice none 0 0), 14) aw13) (cutV aw13 1 p_0 0 (IntKind.i64.wrap (n1 - 4)) fun v15 =>
  CallP prog 57 [v15] aw13 sh57 (fun r17 aw18 =>
  Q (r17, 0) aw18) E)) E) E)
theorem S32_0_ok (Q : (Value × Int) → AW → Prop) (E : List PanicEntry → AW → Prop)  (ρ : Env) (p_0 : Value) (aw : AW) (h0 : ρ 0 = p_0) (H : S32_0 Q E  p_0 aw) :
    AGo prog 21 [.code C32_0] ρ [] aw (RR prog f32 21 sh32 Q E) := by
  unfold S32_0 at H
  refine ago_seqE E32_0 ?_
  refine ago_regE E32_1 (l := [0, 1]) rfl ?_
  refine lk (dt := some 2) R32_0_N rfl rfl rfl (opv_assign rfl rfl rfl) ?_
  refine lk (dt := some 3) R32_0_N rfl rfl rfl (opv_assign rfl rfl rfl) ?_
  refine aops_nil ?_
  refine ago_seqE E32_2 ?_
  refine ago_regE E32_3 (l := [0, 1, 2, 3]) rfl ?_
  refine lk (dt := some 5) R32_1_N rfl rfl rfl (opv_move rfl rfl h0) ?_
  obtain ⟨q2, l3, c4, n1, hv5, hn6, H⟩ := H
  refine lk (dt := some 6) R32_1_N rfl rfl rfl (ov_len rfl rfl rfl underlying25 rfl hv5 hn6) ?_
  refine lk (dt := some 7) R32_1_N rfl rfl rfl (opv_sub rfl rfl rfl rfl rfl) ?_
  refine lk (dt := some 4) R32_1_N rfl rfl rfl (opv_assign rfl rfl rfl) ?_
  refine aops_nil ?_
  refine ago_seqE E32_4 ?_
  refine ago_seqE E32_5 ?_
  refine ago_regE E32_6 (l := [0, 1]) rfl ?_
  refine lk (dt := some 8) R32_2_N rfl rfl rfl (opv_move rfl rfl rfl) ?_
  refine lk (dt := some 9) R32_2_N rfl rfl rfl (opv_lt rfl rfl rfl rfl rfl) ?_
  refine aops_nil ?_
  refine ago_condE  E32_7 rfl rfl (fun hb7 => ?_) (fun hb7 => ?_)
  · replace H := cnd_t H hb7
    refine ago_seqE E32_8 ?_
    refine ago_regE E32_9 (l := [0, 1]) rfl ?_
    refine lk (dt := some 2) R32_3_N rfl rfl rfl (opv_assign rfl rfl rfl) ?_
    refine lk (dt := some 3) R32_3_N rfl rfl rfl (opv_assign rfl rfl rfl) ?_
    refine aops_nil ?_
    exact ago_retE E32_10 (r := ((.slice none 0 0), 3)) (ares_2 rfl (oneT rfl) (oneT rfl)) rfl H
  · replace H := cnd_f H hb7
    refine ago_skipE E32_11 ?_
    refine ago_seqE E32_12 ?_
    refine ago_seqE E32_13 ?_
    refine ago_regE E32_14 (l := [0, 1, 2, 3, 4, 5, 6]) rfl ?_
    refine lk (dt := some 10) R32_4_N rfl rfl rfl (opv_move rfl rfl h0) ?_
    refine lk (dt := some 11) R32_4_N rfl rfl rfl (opv_move rfl rfl rfl) ?_
    obtain ⟨v8, hq9, H⟩ := H
    refine lk (dt := some 12) R32_4_N rfl rfl rfl (ov_cutV rfl rfl underlying25 sz5 rfl (bndN _ _ _) (bndS rfl) hq9) ?_
    refine lk_call (dt := some 13) R32_4_N rfl rfl rfl (opc_of rfl rfl is49 (ma_cons rfl rfl)) H (fun _ _ h => ⟨rfl, h⟩) fun r10 aw11 H => ?_
    refine lk (dt := some 14) R32_4_N rfl rfl rfl (opv_move rfl rfl h0) ?_
    refine lk_call (dt := some 15) R32_4_N rfl rfl rfl (opc_of rfl rfl is62 (ma_cons rfl (ma_cons rfl rfl))) H (fun _ _ h => ⟨rfl, h⟩) fun r12 aw13 H => ?_
    refine lk (dt := some 16) R32_4_N rfl rfl rfl (opv_not rfl rfl rfl) ?_
    refine aops_nil ?_
    refine ago_condE  E32_15 rfl rfl (fun hb14 => ?_) (fun hb14 => ?_)
    · replace H := cnd_t H hb14
      refine ago_seqE E32_16 ?_
      refine ago_regE E32_17 (l := [0, 1]) rfl ?_
      refine lk (dt := some 2) R32_5_N rfl rfl rfl (opv_assign rfl rfl rfl) ?_
      refine lk (dt := some 3) R32_5_N rfl rfl rfl (opv_assign rfl rfl rfl) ?_
      refine aops_nil ?_
      exact ago_retE E32_18 (r := ((.slice none 0 0), 14)) (ares_2 rfl (oneT rfl) (oneT rfl)) rfl H
    · replace H := cnd_f H hb14
      refine ago_skipE E32_19 ?_
      refine ago_seqE E32_20 ?_
      refine ago_cut (fun ρ => ρ 0 = p_0 ∧ ρ 4 = .int .i64 (IntKind.i64.wrap (n1 - 4)) ∧ True) ⟨h0, rfl, trivial⟩ (fun ρ ⟨h0, h4, _⟩ => ?_)
      refine ago_regE E32_21 (l := [0, 1, 2, 3, 4, 5]) rfl ?_
      refine lk (dt := some 17) R32_6_N rfl rfl rfl (opv_move rfl rfl h0) ?_
      refine lk (dt := some 18) R32_6_N rfl rfl rfl (opv_move rfl rfl h4) ?_
      obtain ⟨v15, hq16, H⟩ := H
      refine lk (dt := some 19) R32_6_N rfl rfl rfl (ov_cutV rfl rfl underlying25 sz5 rfl (bndN _ _ _) (bndS rfl) hq16) ?_
      refine lk_call (dt := some 20) R32_6_N rfl rfl rfl (opc_of rfl rfl is57 (ma_cons rfl rfl)) H (fun _ _ h => ⟨rfl, h⟩) fun r17 aw18 H => ?_
      refine lk (dt := some 2) R32_6_N rfl rfl rfl (opv_assign rfl rfl rfl) ?_
      refine lk (dt := some 3) R32_6_N rfl rfl rfl (opv_assign rfl rfl rfl) ?_
      refine aops_nil ?_
      exact ago_retE E32_22 (r := (r17, 0)) (ares_2 rfl (oneT rfl) (oneT rfl)) rfl H
theorem F32_ok {Q : (Value × Int) → AW → Prop} {E : List PanicEntry → AW → Prop} (p_0 : Value) (aw : AW) (H : S32_0 Q E p_0 aw) : CallP prog 32 [p_0] aw sh32 Q E :=
  callP_of func32 C32_is rfl (Nat.le_of_ble_eq_true rfl) (S32_0_ok Q E _ p_0 aw rfl H)
end
end Go.Proofs.Try
