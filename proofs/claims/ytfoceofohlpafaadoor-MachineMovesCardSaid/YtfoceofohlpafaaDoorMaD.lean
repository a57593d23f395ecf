/- Printed by a program of the prover: what the Go functions of this seat do, in steps. -/
import Derived.Test.YtfoceofohlpafaaDoorMaF
set_option linter.unusedSectionVars false
set_option linter.unusedSimpArgs false
set_option linter.unusedVariables false
namespace Go.Proofs.Tryd
open Go Go.Am Go.RowKit
set_option maxHeartbeats 4000000
set_option maxRecDepth 100000
noncomputable section
variable [SymE]
def C40_0 := bodyOf f40
theorem C40_is : f40.body = some C40_0 := by kernel_rfl
def C40_1 := cl C40_0
def R40_0 := regOps C40_1
def C40_2 := cr C40_0
def C40_3 := cl C40_2
def R40_1 := regOps C40_3
def C40_4 := cr C40_2
def C40_5 := cl C40_4
def R40_2 := regOps C40_5
def C40_6 := cr C40_4
def C40_7 := cl C40_6
def C40_8 := cl C40_7
def R40_3 := regOps C40_8
def C40_9 := cr C40_7
def C40_10 := cl C40_9
def R40_4 := regOps C40_10
def C40_11 := cr C40_9
def C40_12 := cr C40_6
def C40_13 := cl C40_12
def R40_5 := regOps C40_13
def C40_14 := cr C40_12
def C40_15 := cl C40_14
def R40_6 := regOps C40_15
def C40_16 := cr C40_14
theorem R40_0_N : dstsOk 26 R40_0 = true := by decide +kernel
theorem R40_1_N : dstsOk 26 R40_1 = true := by decide +kernel
theorem R40_2_N : dstsOk 26 R40_2 = true := by decide +kernel
theorem R40_3_N : dstsOk 26 R40_3 = true := by decide +kernel
theorem R40_4_N : dstsOk 26 R40_4 = true := by decide +kernel
theorem R40_5_N : dstsOk 26 R40_5 = true := by decide +kernel
theorem R40_6_N : dstsOk 26 R40_6 = true := by decide +kernel
def S40_1 (Q : Value → AW → Prop) (E : List PanicEntry → AW → Prop)  (b_0 : Value) (c_1 : Int) (m_5 : Int) (aw : AW) : Prop :=
  nck b_0 (fldA b_0 0 fun p2 =>
  ldV aw p2 fun x10 =>
  ixS x10 m_5 1 fun p12 =>
  st aw p12 [.int .u8 c_1] fun aw21 =>
  Q (.nilIface ) aw21)
def S40_0 (Q : Value → AW → Prop) (E : List PanicEntry → AW → Prop)  (b_0 : Value) (c_1 : Int) (aw : AW) : Prop :=
  nck b_0 (fldA b_0 2 fun p29 =>
  st aw p29 [.int .i8 0] fun aw34 =>
  CallP prog 59 [b_0, .int .i64 1] aw34 sh59 (fun r41 aw42 =>
  cnd (!r41.2) (CallP prog 60 [b_0, .int .i64 1] aw42 sh60 (fun r44 aw45 =>
  S40_1 Q E  b_0 c_1 r44 aw45) E) (S40_1 Q E  b_0 c_1 r41.1 aw42)) E)
theorem S40_1_ok (Q : Value → AW → Prop) (E : List PanicEntry → AW → Prop)  (ρ : Env) (b_0 : Value) (c_1 : Int) (m_5 : Int) (aw : AW) (h0 : ρ 0 = b_0) (h1 : ρ 1 = .int .u8 c_1) (h5 : ρ 5 = .int .i64 m_5) (H : S40_1 Q E  b_0 c_1 m_5 aw) :
    AGo prog 26 [.code C40_12] ρ [] aw (RR prog f40 26 sh40 Q E) := by
  unfold S40_1 at H
  refine ago_seqE (rfl : C40_12 = .seq C40_13 C40_14) ?_
  refine ago_regE (rfl : C40_13 = .region 5 R40_5 false) (l := [0, 1, 2, 3, 4, 5, 6, 7]) rfl ?_
  refine lj 19 R40_5_N rfl rfl rfl (opv_move rfl rfl h0) ?_
  obtain ⟨hp1, H⟩ := H
  refine lj 20 R40_5_N rfl rfl rfl (ov_nck rfl rfl rfl hp1) ?_
  obtain ⟨b3, i4, p2, hp5, hv6, H⟩ := H
  refine lj 21 R40_5_N rfl rfl rfl (ov_fldA rfl rfl underlying94 rfl sz73 (by decide) rfl hp5 rfl hv6) ?_
  obtain ⟨b7, i8, x10, hp9, hg11, H⟩ := H
  refine lj 22 R40_5_N rfl rfl rfl (ov_ldV rfl underlying73 rfl rfl rfl hp9 hg11) ?_
  refine lj 23 R40_5_N rfl rfl rfl (opv_move rfl rfl h5) ?_
  refine lj 24 R40_5_N rfl rfl rfl (opv_move rfl rfl h1) ?_
  obtain ⟨b13, i14, l15, c16, p12, hp17, h018, hj19, hv20, H⟩ := H
  refine lj 25 R40_5_N rfl rfl rfl (ov_ixS rfl rfl rfl underlying73 sz5 rfl rfl hp17 h018 hj19 hv20) ?_
  obtain ⟨b22, i23, aw21, hp24, hw25, ho26, ha27, H⟩ := H
  refine lk (dt := none) R40_5_N rfl rfl rfl (ov_st rfl rfl rfl rfl rfl rfl sz5 hp24 hw25 ho26 ha27) ?_
  refine aops_nil ?_
  refine ago_seqE (rfl : C40_14 = .seq C40_15 C40_16) ?_
  refine ago_regE (rfl : C40_15 = .region 6 R40_6 false) (l := [0]) rfl ?_
  refine lj 4 R40_6_N rfl rfl rfl (opv_assign rfl rfl rfl) ?_
  refine aops_nil ?_
  exact ago_retE (rfl : C40_16 = .ret) (r := (.nilIface )) (ares_1 rfl (oneT rfl)) rfl H
theorem S40_0_ok (Q : Value → AW → Prop) (E : List PanicEntry → AW → Prop)  (ρ : Env) (b_0 : Value) (c_1 : Int) (aw : AW) (h0 : ρ 0 = b_0) (h1 : ρ 1 = .int .u8 c_1) (H : S40_0 Q E  b_0 c_1 aw) :
    AGo prog 26 [.code C40_0] ρ [] aw (RR prog f40 26 sh40 Q E) := by
  unfold S40_0 at H
  refine ago_seqE (rfl : C40_0 = .seq C40_1 C40_2) ?_
  refine ago_regE (rfl : C40_1 = .region 0 R40_0 false) (l := [0]) rfl ?_
  refine lj 4 R40_0_N rfl rfl rfl (opv_assign rfl rfl rfl) ?_
  refine aops_nil ?_
  refine ago_seqE (rfl : C40_2 = .seq C40_3 C40_4) ?_
  refine ago_regE (rfl : C40_3 = .region 1 R40_1 false) (l := [0, 1, 2, 3]) rfl ?_
  refine lj 7 R40_1_N rfl rfl rfl (opv_move rfl rfl h0) ?_
  obtain ⟨hp28, H⟩ := H
  refine lj 8 R40_1_N rfl rfl rfl (ov_nck rfl rfl rfl hp28) ?_
  obtain ⟨b30, i31, p29, hp32, hv33, H⟩ := H
  refine lj 9 R40_1_N rfl rfl rfl (ov_fldA rfl rfl underlying94 rfl sz92 (by decide) rfl hp32 rfl hv33) ?_
  obtain ⟨b35, i36, aw34, hp37, hw38, ho39, ha40, H⟩ := H
  refine lk (dt := none) R40_1_N rfl rfl rfl (ov_st rfl rfl rfl rfl rfl rfl sz92 hp37 hw38 ho39 ha40) ?_
  refine aops_nil ?_
  refine ago_seqE (rfl : C40_4 = .seq C40_5 C40_6) ?_
  refine ago_regE (rfl : C40_5 = .region 2 R40_2 false) (l := [0, 1, 2, 3, 4, 5, 6]) rfl ?_
  refine lj 11 R40_2_N rfl rfl rfl (opv_move rfl rfl h0) ?_
  refine lc 12 R40_2_N rfl rfl rfl (opc_of rfl rfl is59 (ma_cons rfl (ma_cons rfl rfl))) H (fun _ _ h => ⟨rfl, h⟩) fun r41 aw42 H => ?_
  refine lj 10 R40_2_N rfl rfl rfl (opv_move rfl rfl rfl) ?_
  refine lj 13 R40_2_N rfl rfl rfl (opv_extract rfl rfl rfl rfl) ?_
  refine lj 14 R40_2_N rfl rfl rfl (opv_extract rfl rfl rfl rfl) ?_
  refine lj 5 R40_2_N rfl rfl rfl (opv_assign rfl rfl rfl) ?_
  refine lj 6 R40_2_N rfl rfl rfl (opv_assign rfl rfl rfl) ?_
  refine aops_nil ?_
  refine ago_seqE (rfl : C40_6 = .seq C40_7 C40_12) ?_
  refine ago_seqE (rfl : C40_7 = .seq C40_8 C40_9) ?_
  refine ago_cut (fun ρ => ρ 0 = b_0 ∧ ρ 1 = .int .u8 c_1 ∧ ρ 5 = .int .i64 r41.1 ∧ ρ 6 = .bool r41.2 ∧ True) ⟨h0, h1, rfl, rfl, trivial⟩ (fun ρ ⟨h0, h1, h5, h6, _⟩ => ?_)
  refine ago_regE (rfl : C40_8 = .region 3 R40_3 false) (l := [0, 1]) rfl ?_
  refine lj 15 R40_3_N rfl rfl rfl (opv_move rfl rfl h6) ?_
  refine lj 16 R40_3_N rfl rfl rfl (opv_not rfl rfl rfl) ?_
  refine aops_nil ?_
  refine ago_condE  (rfl : C40_9 = .cond (.tmp 16) C40_10 C40_11) rfl rfl (fun hb43 => ?_) (fun hb43 => ?_)
  · replace H := cnd_t H hb43
    refine ago_regE (rfl : C40_10 = .region 4 R40_4 false) (l := [0, 1, 2]) rfl ?_
    refine lj 17 R40_4_N rfl rfl rfl (opv_move rfl rfl h0) ?_
    refine lc 18 R40_4_N rfl rfl rfl (opc_of rfl rfl is60 (ma_cons rfl (ma_cons rfl rfl))) H (fun _ _ h => ⟨rfl, h⟩) fun r44 aw45 H => ?_
    refine lj 5 R40_4_N rfl rfl rfl (opv_assign rfl rfl rfl) ?_
    refine aops_nil ?_
    exact S40_1_ok Q E  _ b_0 c_1 r44 aw45 h0 h1 rfl H
  replace H := cnd_f H hb43
  refine ago_skipE (rfl : C40_11 = .skip) ?_
  exact S40_1_ok Q E  _ b_0 c_1 r41.1 aw42 h0 h1 h5 H
theorem F40_ok {Q : Value → AW → Prop} {E : List PanicEntry → AW → Prop} (b_0 : Value) (c_1 : Int) (aw : AW) (H : S40_0 Q E b_0 c_1 aw) : CallP prog 40 [b_0, .int .u8 c_1] aw sh40 Q E :=
  callP_of func40 C40_is rfl (Nat.le_of_ble_eq_true rfl) (S40_0_ok Q E _ b_0 c_1 aw rfl rfl H)
def C42_0 := bodyOf f42
theorem C42_is : f42.body = some C42_0 := by kernel_rfl
def C42_1 := cl C42_0
def R42_0 := regOps C42_1
def C42_2 := cr C42_0
def C42_3 := cl C42_2
def C42_4 := cl C42_3
def R42_1 := regOps C42_4
def C42_5 := cr C42_3
def C42_6 := cl C42_5
def C42_7 := cl C42_6
def R42_2 := regOps C42_7
def C42_8 := cr C42_6
def C42_9 := cr C42_5
def C42_10 := cr C42_2
def C42_11 := cl C42_10
def R42_3 := regOps C42_11
def C42_12 := cr C42_10
theorem R42_0_N : dstsOk 15 R42_0 = true := by decide +kernel
theorem R42_1_N : dstsOk 15 R42_1 = true := by decide +kernel
theorem R42_2_N : dstsOk 15 R42_2 = true := by decide +kernel
theorem R42_3_N : dstsOk 15 R42_3 = true := by decide +kernel
theorem R42_3_O : linOk R42_3 [0, 1, 2, 3, 4, 5, 6, 7, 8, 9, 10] [] = true := by decide +kernel
def S42_0 (Q : ByteArray → AW → Prop) (E : List PanicEntry → AW → Prop)  (b_0 : Value) (aw : AW) : Prop :=
  nilB (.pointer 94) b_0 (.pointer none) fun q1 =>
  cnd q1 (Q (⟨#[60, 110, 105, 108, 62]⟩ : ByteArray) aw) (nck b_0 (fldA b_0 0 fun p6 =>
  ldV aw p6 fun x14 =>
  nck b_0 (fldA b_0 1 fun p17 =>
  ldI .i64 aw p17 fun x25 =>
  cutV aw 1 x14 x25 (lenV x14) fun v27 =>
  toS aw v27 fun s29 =>
  Q s29 aw)))
theorem S42_0_ok (Q : ByteArray → AW → Prop) (E : List PanicEntry → AW → Prop)  (ρ : Env) (b_0 : Value) (aw : AW) (h0 : ρ 0 = b_0) (H : S42_0 Q E  b_0 aw) :
    AGo prog 15 [.code C42_0] ρ [] aw (RR prog f42 15 sh42 Q E) := by
  unfold S42_0 at H
  refine ago_seqE (rfl : C42_0 = .seq C42_1 C42_2) ?_
  refine ago_regE (rfl : C42_1 = .region 0 R42_0 false) (l := [0]) rfl ?_
  refine lj 2 R42_0_N rfl rfl rfl (opv_assign rfl rfl rfl) ?_
  refine aops_nil ?_
  refine ago_seqE (rfl : C42_2 = .seq C42_3 C42_10) ?_
  refine ago_seqE (rfl : C42_3 = .seq C42_4 C42_5) ?_
  refine ago_regE (rfl : C42_4 = .region 1 R42_1 false) (l := [0, 1]) rfl ?_
  refine lj 3 R42_1_N rfl rfl rfl (opv_move rfl rfl h0) ?_
  obtain ⟨q1, hf2, hq3, H⟩ := H
  refine lj 4 R42_1_N rfl rfl rfl (ov_eqNil rfl rfl underlying119 rfl hf2 hq3) ?_
  refine aops_nil ?_
  refine ago_condE  (rfl : C42_5 = .cond (.tmp 4) C42_6 C42_9) rfl rfl (fun hb4 => ?_) (fun hb4 => ?_)
  · replace H := cnd_t H hb4
    refine ago_seqE (rfl : C42_6 = .seq C42_7 C42_8) ?_
    refine ago_regE (rfl : C42_7 = .region 2 R42_2 false) (l := [0]) rfl ?_
    refine lj 2 R42_2_N rfl rfl rfl (opv_assign rfl rfl rfl) ?_
    refine aops_nil ?_
    exact ago_retE (rfl : C42_8 = .ret) (r := (⟨#[60, 110, 105, 108, 62]⟩ : ByteArray)) (ares_1 rfl (oneT rfl)) rfl H
  replace H := cnd_f H hb4
  refine ago_skipE (rfl : C42_9 = .skip) ?_
  refine ago_seqE (rfl : C42_10 = .seq C42_11 C42_12) ?_
  obtain ⟨hp5, H⟩ := H
  obtain ⟨b7, i8, p6, hp9, hv10, H⟩ := H
  obtain ⟨b11, i12, x14, hp13, hg15, H⟩ := H
  obtain ⟨hp16, H⟩ := H
  obtain ⟨b18, i19, p17, hp20, hv21, H⟩ := H
  obtain ⟨b22, i23, x25, hp24, hg26, H⟩ := H
  obtain ⟨v27, hq28, H⟩ := H
  obtain ⟨l34, n33, s29, hs30, hq31, hv32, H⟩ := H
  have hl35 := srcB_len hs30
  refine ago_drawH (p := [0, 1, 2, 3, 4, 5, 6, 7, 8, 9, 10]) (tl := []) (hv := [(0, b_0), (1, b_0), (2, p6), (3, x14), (4, b_0), (5, b_0), (6, p17), (7, Value.int .i64 x25), (8, v27), (9, Value.string s29), (10, Value.string s29)]) (rfl : C42_11 = .region 3 R42_3 true) mixed R42_3_N R42_3_O rfl (pv_cons rfl (pv_cons rfl (pv_cons rfl (pv_cons rfl (pv_cons rfl (pv_cons rfl (pv_cons rfl (pv_cons rfl (pv_cons rfl (pv_cons rfl (pv_cons rfl (pv_nil _))))))))))))
    (fc 5 b_0 (hd_v rfl fun ρ hρ => ⟨rfl, opv_move rfl rfl ((hρ 0 (lmem rfl)).trans h0)⟩) rfl rfl
    (fc 6 b_0 (hd_v rfl fun ρ hρ => ⟨rfl, ov_nck rfl rfl ((hρ 5 (lmem rfl)).trans rfl) hp5⟩) rfl rfl
    (fc 7 p6 (hd_v rfl fun ρ hρ => ⟨rfl, ov_fldA rfl rfl underlying94 rfl sz73 (by decide) ((hρ 6 (lmem rfl)).trans rfl) hp9 rfl hv10⟩) rfl rfl
    (fc 8 x14 (hd_v rfl fun ρ hρ => ⟨rfl, ov_ldV rfl underlying73 rfl rfl ((hρ 7 (lmem rfl)).trans rfl) hp13 hg15⟩) rfl rfl
    (fc 9 b_0 (hd_v rfl fun ρ hρ => ⟨rfl, opv_move rfl rfl ((hρ 0 (lmem rfl)).trans h0)⟩) rfl rfl
    (fc 10 b_0 (hd_v rfl fun ρ hρ => ⟨rfl, ov_nck rfl rfl ((hρ 9 (lmem rfl)).trans rfl) hp16⟩) rfl rfl
    (fc 11 p17 (hd_v rfl fun ρ hρ => ⟨rfl, ov_fldA rfl rfl underlying94 rfl sz3 (by decide) ((hρ 10 (lmem rfl)).trans rfl) hp20 rfl hv21⟩) rfl rfl
    (fc 12 (.int .i64 x25) (hd_v rfl fun ρ hρ => ⟨rfl, ov_ldI rfl underlying3 rfl ((hρ 11 (lmem rfl)).trans rfl) hp24 hg26⟩) rfl rfl
    (fc 13 v27 (hd_v rfl fun ρ hρ => ⟨rfl, ov_cutV rfl rfl underlying73 sz5 ((hρ 8 (lmem rfl)).trans rfl) (bndS ((hρ 12 (lmem rfl)).trans rfl)) (bndN _ _ _) hq28⟩) rfl rfl
    (fc 14 (.string s29) (hd_v rfl fun ρ hρ => ⟨rfl, ov_toS rfl rfl underlying73 underlying9 underlying5 ((hρ 13 (lmem rfl)).trans rfl) hs30 hq31 hv32⟩) rfl rfl
    (fc 2 (.string s29) (hd_v rfl fun ρ hρ => ⟨rfl, opv_assign rfl rfl ((hρ 14 (lmem rfl)).trans rfl)⟩) rfl rfl
    ffn))))))))))) ?_
  refine lt_end ?_
  exact ago_retE (rfl : C42_12 = .ret) (r := s29) (ares_1 rfl (oneT rfl)) rfl H
theorem F42_ok {Q : ByteArray → AW → Prop} {E : List PanicEntry → AW → Prop} (b_0 : Value) (aw : AW) (H : S42_0 Q E b_0 aw) : CallP prog 42 [b_0] aw sh42 Q E :=
  callP_of func42 C42_is rfl (Nat.le_of_ble_eq_true rfl) (S42_0_ok Q E _ b_0 aw rfl H)
def C76_0 := bodyOf f76
theorem C76_is : f76.body = some C76_0 := by kernel_rfl
def C76_1 := cl C76_0
def R76_0 := regOps C76_1
def C76_2 := cr C76_0
def C76_3 := cl C76_2
def R76_1 := regOps C76_3
def C76_4 := cr C76_2
theorem R76_0_N : dstsOk 13 R76_0 = true := by decide +kernel
theorem R76_1_N : dstsOk 13 R76_1 = true := by decide +kernel
theorem R76_1_O : linOk R76_1 [0, 1, 2, 3, 4, 5, 6, 7, 8, 9, 10] [] = true := by decide +kernel
def S76_0 (Q : Int → AW → Prop) (E : List PanicEntry → AW → Prop)  (b_0 : Value) (aw : AW) : Prop :=
  nck b_0 (fldA b_0 0 fun p2 =>
  ldV aw p2 fun x10 =>
  slen x10 fun n12 =>
  nck b_0 (fldA b_0 1 fun p19 =>
  ldI .i64 aw p19 fun x27 =>
  Q (IntKind.i64.wrap (n12 - x27)) aw))
theorem S76_0_ok (Q : Int → AW → Prop) (E : List PanicEntry → AW → Prop)  (ρ : Env) (b_0 : Value) (aw : AW) (h0 : ρ 0 = b_0) (H : S76_0 Q E  b_0 aw) :
    AGo prog 13 [.code C76_0] ρ [] aw (RR prog f76 13 sh76 Q E) := by
  unfold S76_0 at H
  refine ago_seqE (rfl : C76_0 = .seq C76_1 C76_2) ?_
  refine ago_regE (rfl : C76_1 = .region 0 R76_0 false) (l := [0]) rfl ?_
  refine lj 2 R76_0_N rfl rfl rfl (opv_assign rfl rfl rfl) ?_
  refine aops_nil ?_
  refine ago_seqE (rfl : C76_2 = .seq C76_3 C76_4) ?_
  obtain ⟨hp1, H⟩ := H
  obtain ⟨b3, i4, p2, hp5, hv6, H⟩ := H
  obtain ⟨b7, i8, x10, hp9, hg11, H⟩ := H
  obtain ⟨q13, l14, c15, n12, hv16, hn17, H⟩ := H
  obtain ⟨hp18, H⟩ := H
  obtain ⟨b20, i21, p19, hp22, hv23, H⟩ := H
  obtain ⟨b24, i25, x27, hp26, hg28, H⟩ := H
  refine ago_drawH (p := [0, 1, 2, 3, 4, 5, 6, 7, 8, 9, 10]) (tl := []) (hv := [(0, b_0), (1, b_0), (2, p2), (3, x10), (4, Value.int .i64 n12), (5, b_0), (6, b_0), (7, p19), (8, Value.int .i64 x27), (9, Value.int .i64 (IntKind.i64.wrap (n12 - x27))), (10, Value.int .i64 (IntKind.i64.wrap (n12 - x27)))]) (rfl : C76_3 = .region 1 R76_1 true) mixed R76_1_N R76_1_O rfl (pv_cons rfl (pv_cons rfl (pv_cons rfl (pv_cons rfl (pv_cons rfl (pv_cons rfl (pv_cons rfl (pv_cons rfl (pv_cons rfl (pv_cons rfl (pv_cons rfl (pv_nil _))))))))))))
    (fc 3 b_0 (hd_v rfl fun ρ hρ => ⟨rfl, opv_move rfl rfl ((hρ 0 (lmem rfl)).trans h0)⟩) rfl rfl
    (fc 4 b_0 (hd_v rfl fun ρ hρ => ⟨rfl, ov_nck rfl rfl ((hρ 3 (lmem rfl)).trans rfl) hp1⟩) rfl rfl
    (fc 5 p2 (hd_v rfl fun ρ hρ => ⟨rfl, ov_fldA rfl rfl underlying94 rfl sz73 (by decide) ((hρ 4 (lmem rfl)).trans rfl) hp5 rfl hv6⟩) rfl rfl
    (fc 6 x10 (hd_v rfl fun ρ hρ => ⟨rfl, ov_ldV rfl underlying73 rfl rfl ((hρ 5 (lmem rfl)).trans rfl) hp9 hg11⟩) rfl rfl
    (fc 7 (.int .i64 n12) (hd_v rfl fun ρ hρ => ⟨rfl, ov_len rfl rfl rfl underlying73 ((hρ 6 (lmem rfl)).trans rfl) hv16 hn17⟩) rfl rfl
    (fc 8 b_0 (hd_v rfl fun ρ hρ => ⟨rfl, opv_move rfl rfl ((hρ 0 (lmem rfl)).trans h0)⟩) rfl rfl
    (fc 9 b_0 (hd_v rfl fun ρ hρ => ⟨rfl, ov_nck rfl rfl ((hρ 8 (lmem rfl)).trans rfl) hp18⟩) rfl rfl
    (fc 10 p19 (hd_v rfl fun ρ hρ => ⟨rfl, ov_fldA rfl rfl underlying94 rfl sz3 (by decide) ((hρ 9 (lmem rfl)).trans rfl) hp22 rfl hv23⟩) rfl rfl
    (fc 11 (.int .i64 x27) (hd_v rfl fun ρ hρ => ⟨rfl, ov_ldI rfl underlying3 rfl ((hρ 10 (lmem rfl)).trans rfl) hp26 hg28⟩) rfl rfl
    (fc 12 (.int .i64 (IntKind.i64.wrap (n12 - x27))) (hd_v rfl fun ρ hρ => ⟨rfl, opv_sub rfl rfl rfl ((hρ 7 (lmem rfl)).trans rfl) ((hρ 11 (lmem rfl)).trans rfl)⟩) rfl rfl
    (fc 2 (.int .i64 (IntKind.i64.wrap (n12 - x27))) (hd_v rfl fun ρ hρ => ⟨rfl, opv_assign rfl rfl ((hρ 12 (lmem rfl)).trans rfl)⟩) rfl rfl
    ffn))))))))))) ?_
  refine lt_end ?_
  exact ago_retE (rfl : C76_4 = .ret) (r := (IntKind.i64.wrap (n12 - x27))) (ares_1 rfl (oneT rfl)) rfl H
theorem F76_ok {Q : Int → AW → Prop} {E : List PanicEntry → AW → Prop} (b_0 : Value) (aw : AW) (H : S76_0 Q E b_0 aw) : CallP prog 76 [b_0] aw sh76 Q E :=
  callP_of func76 C76_is rfl (Nat.le_of_ble_eq_true rfl) (S76_0_ok Q E _ b_0 aw rfl H)
def C33_0 := bodyOf f33
theorem C33_is : f33.body = some C33_0 := by kernel_rfl
def C33_1 := cl C33_0
def R33_0 := regOps C33_1
def C33_2 := cr C33_0
def R33_1 := regOps C33_2
theorem R33_0_N : dstsOk 8 R33_0 = true := by decide +kernel
theorem R33_1_N : dstsOk 8 R33_1 = true := by decide +kernel
def S33_0 (Q : Unit → AW → Prop) (E : List PanicEntry → AW → Prop)  (b_0 : Value) (aw : AW) : Prop :=
  nck b_0 (fldA b_0 0 fun p2 =>
  st aw p2 [(.pointer none)] fun aw7 =>
  nck b_0 (fldA b_0 1 fun p15 =>
  st aw7 p15 [(.slice none 0 0)] fun aw20 =>
  Q () aw20))
theorem S33_0_ok (Q : Unit → AW → Prop) (E : List PanicEntry → AW → Prop)  (ρ : Env) (b_0 : Value) (aw : AW) (h0 : ρ 0 = b_0) (H : S33_0 Q E  b_0 aw) :
    AGo prog 8 [.code C33_0] ρ [] aw (RR prog f33 8 sh33 Q E) := by
  unfold S33_0 at H
  refine ago_seqE (rfl : C33_0 = .seq C33_1 C33_2) ?_
  refine ago_regE (rfl : C33_1 = .region 0 R33_0 false) (l := [0, 1, 2, 3]) rfl ?_
  refine lj 2 R33_0_N rfl rfl rfl (opv_move rfl rfl h0) ?_
  obtain ⟨hp1, H⟩ := H
  refine lj 3 R33_0_N rfl rfl rfl (ov_nck rfl rfl rfl hp1) ?_
  obtain ⟨b3, i4, p2, hp5, hv6, H⟩ := H
  refine lj 4 R33_0_N rfl rfl rfl (ov_fldA rfl rfl underlying75 rfl sz72 (by decide) rfl hp5 rfl hv6) ?_
  obtain ⟨b8, i9, aw7, hp10, hw11, ho12, ha13, H⟩ := H
  refine lk (dt := none) R33_0_N rfl rfl rfl (ov_st rfl rfl rfl rfl rfl (cells_all ho12) sz72 hp10 hw11 ho12 ha13) ?_
  refine aops_nil ?_
  refine ago_regE (rfl : C33_2 = .region 1 R33_1 false) (l := [0, 1, 2, 3]) rfl ?_
  refine lj 5 R33_1_N rfl rfl rfl (opv_move rfl rfl h0) ?_
  obtain ⟨hp14, H⟩ := H
  refine lj 6 R33_1_N rfl rfl rfl (ov_nck rfl rfl rfl hp14) ?_
  obtain ⟨b16, i17, p15, hp18, hv19, H⟩ := H
  refine lj 7 R33_1_N rfl rfl rfl (ov_fldA rfl rfl underlying75 rfl sz73 (by decide) rfl hp18 rfl hv19) ?_
  obtain ⟨b21, i22, aw20, hp23, hw24, ho25, ha26, H⟩ := H
  refine lk (dt := none) R33_1_N rfl rfl rfl (ov_st rfl rfl rfl rfl rfl (cells_all ho25) sz73 hp23 hw24 ho25 ha26) ?_
  refine aops_nil ?_
  exact ago_nilR (r := ()) (ares_0 rfl ) rfl H
theorem F33_ok {Q : Unit → AW → Prop} {E : List PanicEntry → AW → Prop} (b_0 : Value) (aw : AW) (H : S33_0 Q E b_0 aw) : CallP prog 33 [b_0] aw sh33 Q E :=
  callP_of func33 C33_is rfl (Nat.le_of_ble_eq_true rfl) (S33_0_ok Q E _ b_0 aw rfl H)
def C36_0 := bodyOf f36
theorem C36_is : f36.body = some C36_0 := by kernel_rfl
def C36_1 := cl C36_0
def R36_0 := regOps C36_1
def C36_2 := cr C36_0
def C36_3 := cl C36_2
def R36_1 := regOps C36_3
def C36_4 := cr C36_2
theorem R36_0_N : dstsOk 14 R36_0 = true := by decide +kernel
theorem R36_1_N : dstsOk 14 R36_1 = true := by decide +kernel
theorem R36_1_O : linOk R36_1 [0, 1, 2, 3, 5, 6, 7, 8, 9] [(4, [5, 6, 7, 8, 9], []), (10, [], [11])] = true := by decide +kernel
def S36_0 (Q : ByteArray → AW → Prop) (E : List PanicEntry → AW → Prop)  (b_0 : Value) (aw : AW) : Prop :=
  nck b_0 (fldA b_0 1 fun p2 =>
  ldV aw p2 fun x10 =>
  nck b_0 (fldA b_0 1 fun p13 =>
  ldV aw p13 fun x21 =>
  slen x21 fun n23 =>
  usd x10 fun p29 =>
  again1 aw p13 (x21) ∧ uStr prog aw 5 p29 n23 fun s32 aw33 =>
  Q s32 aw33))
theorem S36_0_ok (Q : ByteArray → AW → Prop) (E : List PanicEntry → AW → Prop)  (ρ : Env) (b_0 : Value) (aw : AW) (h0 : ρ 0 = b_0) (H : S36_0 Q E  b_0 aw) :
    AGo prog 14 [.code C36_0] ρ [] aw (RR prog f36 14 sh36 Q E) := by
  unfold S36_0 at H
  refine ago_seqE (rfl : C36_0 = .seq C36_1 C36_2) ?_
  refine ago_regE (rfl : C36_1 = .region 0 R36_0 false) (l := [0]) rfl ?_
  refine lj 2 R36_0_N rfl rfl rfl (opv_assign rfl rfl rfl) ?_
  refine aops_nil ?_
  refine ago_seqE (rfl : C36_2 = .seq C36_3 C36_4) ?_
  obtain ⟨hp1, H⟩ := H
  obtain ⟨b3, i4, p2, hp5, hv6, H⟩ := H
  obtain ⟨b7, i8, x10, hp9, hg11, H⟩ := H
  obtain ⟨hp12, H⟩ := H
  obtain ⟨b14, i15, p13, hp16, hv17, H⟩ := H
  obtain ⟨b18, i19, x21, hp20, hg22, H⟩ := H
  obtain ⟨q24, l25, c26, n23, hv27, hn28, H⟩ := H
  refine ago_drawH (p := [0, 1, 2, 3, 5, 6, 7, 8, 9]) (tl := [(4, [5, 6, 7, 8, 9], []), (10, [], [11])]) (hv := [(0, b_0), (1, b_0), (2, p2), (3, x10), (5, b_0), (6, b_0), (7, p13), (8, x21), (9, Value.int .i64 n23)]) (rfl : C36_3 = .region 1 R36_1 true) mixed R36_1_N R36_1_O rfl (pv_cons rfl (pv_cons rfl (pv_cons rfl (pv_cons rfl (pv_cons rfl (pv_cons rfl (pv_cons rfl (pv_cons rfl (pv_cons rfl (pv_nil _))))))))))
    (fc 3 b_0 (hd_v rfl fun ρ hρ => ⟨rfl, opv_move rfl rfl ((hρ 0 (lmem rfl)).trans h0)⟩) rfl rfl
    (fc 4 b_0 (hd_v rfl fun ρ hρ => ⟨rfl, ov_nck rfl rfl ((hρ 3 (lmem rfl)).trans rfl) hp1⟩) rfl rfl
    (fc 5 p2 (hd_v rfl fun ρ hρ => ⟨rfl, ov_fldA rfl rfl underlying75 rfl sz73 (by decide) ((hρ 4 (lmem rfl)).trans rfl) hp5 rfl hv6⟩) rfl rfl
    (fc 6 x10 (hd_v rfl fun ρ hρ => ⟨rfl, ov_ldV rfl underlying73 rfl rfl ((hρ 5 (lmem rfl)).trans rfl) hp9 hg11⟩) rfl rfl
    (fc 8 b_0 (hd_v rfl fun ρ hρ => ⟨rfl, opv_move rfl rfl ((hρ 0 (lmem rfl)).trans h0)⟩) rfl rfl
    (fc 9 b_0 (hd_v rfl fun ρ hρ => ⟨rfl, ov_nck rfl rfl ((hρ 8 (lmem rfl)).trans rfl) hp12⟩) rfl rfl
    (fc 10 p13 (hd_v rfl fun ρ hρ => ⟨rfl, ov_fldA rfl rfl underlying75 rfl sz73 (by decide) ((hρ 9 (lmem rfl)).trans rfl) hp16 rfl hv17⟩) rfl rfl
    (fc 11 x21 (hd_v rfl fun ρ hρ => ⟨rfl, ov_ldV rfl underlying73 rfl rfl ((hρ 10 (lmem rfl)).trans rfl) hp20 hg22⟩) rfl rfl
    (fc 12 (.int .i64 n23) (hd_v rfl fun ρ hρ => ⟨rfl, ov_len rfl rfl rfl underlying73 ((hρ 11 (lmem rfl)).trans rfl) hv27 hn28⟩) rfl rfl
    ffn))))))))) ?_
  obtain ⟨p29, hp30, hv31, H⟩ := H
  refine lt_val (dt := some 7) (v := p29) rfl rfl (fun ρ hρ => ⟨rfl, ov_usd rfl rfl ((hρ 6 (lmem rfl)).trans rfl) hp30 hv31⟩) ?_
  obtain ⟨hg22, H⟩ := H
  replace hg22 := hg22 _ _ hp20
  refine lt_next (l := [5, 6, 7, 8, 9]) (hv := []) rfl rfl (pv_nil _)
    (fc 8 b_0 (hd_v rfl fun ρ hρ => ⟨rfl, opv_move rfl rfl ((hρ 0 (lmem rfl)).trans h0)⟩) rfl rfl
    (fc 9 b_0 (hd_v rfl fun ρ hρ => ⟨rfl, ov_nck rfl rfl ((hρ 8 (lmem rfl)).trans rfl) hp12⟩) rfl rfl
    (fc 10 p13 (hd_v rfl fun ρ hρ => ⟨rfl, ov_fldA rfl rfl underlying75 rfl sz73 (by decide) ((hρ 9 (lmem rfl)).trans rfl) hp16 rfl hv17⟩) rfl rfl
    (fc 11 x21 (hd_v rfl fun ρ hρ => ⟨rfl, ov_ldV rfl underlying73 rfl rfl ((hρ 10 (lmem rfl)).trans rfl) hp20 hg22⟩) rfl rfl
    (fc 12 (.int .i64 n23) (hd_v rfl fun ρ hρ => ⟨rfl, ov_len rfl rfl rfl underlying73 ((hρ 11 (lmem rfl)).trans rfl) hv27 hn28⟩) rfl rfl
    ffn))))) ?_
  obtain ⟨s32, aw33, hp34, H⟩ := H
  refine lt_val (dt := some 13) (v := .string s32) rfl rfl (fun ρ hρ => ⟨rfl, ov_ustr rfl rfl rfl underlying118 (by kernel_rfl) ((hρ 7 (lmem rfl)).trans rfl) ((hρ 12 (lmem rfl)).trans rfl) hp34⟩) ?_
  refine lt_next (l := [11]) (hv := [(11, Value.string s32)]) rfl rfl (pv_cons rfl (pv_nil _))
    (fc 2 (.string s32) (hd_v rfl fun ρ hρ => ⟨rfl, opv_assign rfl rfl ((hρ 13 (lmem rfl)).trans rfl)⟩) rfl rfl
    ffn) ?_
  refine lt_end ?_
  exact ago_retE (rfl : C36_4 = .ret) (r := s32) (ares_1 rfl (oneT rfl)) rfl H
theorem F36_ok {Q : ByteArray → AW → Prop} {E : List PanicEntry → AW → Prop} (b_0 : Value) (aw : AW) (H : S36_0 Q E b_0 aw) : CallP prog 36 [b_0] aw sh36 Q E :=
  callP_of func36 C36_is rfl (Nat.le_of_ble_eq_true rfl) (S36_0_ok Q E _ b_0 aw rfl H)
end
end Go.Proofs.Tryd
