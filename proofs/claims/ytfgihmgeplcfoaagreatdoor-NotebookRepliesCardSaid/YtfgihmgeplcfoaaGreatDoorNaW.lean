/- Printed by a program of the prover: what the Go functions of this seat do, in steps. -/
import Derived.Test.YtfgihmgeplcfoaaGreatDoorNaF
import Derived.Test.YtfgihmgeplcfoaaGreatDoorNaA
set_option linter.unusedSectionVars false
set_option linter.unusedSimpArgs false
set_option linter.unusedVariables false
namespace Go.Proofs.Tryz
open Go Go.Am Go.RowKit
set_option maxHeartbeats 4000000
set_option maxRecDepth 100000
noncomputable section
variable [SymE]
def C15_0 := bodyOf f15
theorem C15_is : f15.body = some C15_0 := by kernel_rfl
def C15_1 := cl C15_0
def R15_0 := regOps C15_1
def C15_2 := cr C15_0
def C15_3 := cl C15_2
def R15_1 := regOps C15_3
def C15_4 := cr C15_2
def C15_5 := cl C15_4
def C15_6 := cl C15_5
def C15_7 := cl C15_6
def C15_8 := cl C15_7
def C15_9 := cl C15_8
def R15_2 := regOps C15_9
def C15_10 := cr C15_8
def C15_11 := cl C15_10
def C15_12 := cr C15_10
def C15_13 := cr C15_7
def C15_14 := cl C15_13
def R15_3 := regOps C15_14
def C15_15 := cr C15_4
def C15_16 := cl C15_15
def R15_4 := regOps C15_16
def C15_17 := cr C15_15
def C15_18 := cl C15_17
def C15_19 := cl C15_18
def R15_5 := regOps C15_19
def C15_20 := cr C15_18
def C15_21 := cl C15_20
def C15_22 := cl C15_21
def C15_23 := cl C15_22
def C15_24 := cl C15_23
def R15_6 := regOps C15_24
def C15_25 := cr C15_23
def C15_26 := cl C15_25
def C15_27 := cr C15_25
def C15_28 := cr C15_22
def C15_29 := cl C15_28
def C15_30 := cl C15_29
def R15_8 := regOps C15_30
def C15_31 := cr C15_28
def R15_7 := regOps C15_31
def C15_32 := cr C15_17
def C15_33 := cl C15_32
def R15_9 := regOps C15_33
def C15_34 := cr C15_32
theorem R15_0_N : dstsOk 49 R15_0 = true := by decide +kernel
theorem R15_1_N : dstsOk 49 R15_1 = true := by decide +kernel
theorem R15_2_N : dstsOk 49 R15_2 = true := by decide +kernel
theorem R15_3_N : dstsOk 49 R15_3 = true := by decide +kernel
theorem R15_4_N : dstsOk 49 R15_4 = true := by decide +kernel
theorem R15_5_N : dstsOk 49 R15_5 = true := by decide +kernel
theorem R15_6_N : dstsOk 49 R15_6 = true := by decide +kernel
theorem R15_8_N : dstsOk 49 R15_8 = true := by decide +kernel
theorem R15_8_O : linOk R15_8 [0, 1, 2, 3, 4, 5, 6, 7, 8, 9] [(10, [0, 1, 2, 3, 4], []), (11, [0], [12, 13]), (14, [], [])] = true := by decide +kernel
theorem R15_7_N : dstsOk 49 R15_7 = true := by decide +kernel
theorem R15_9_N : dstsOk 49 R15_9 = true := by decide +kernel
def S15_2s (Q : Value → AW → Prop) (E : List PanicEntry → AW → Prop)  (nx2 : Value → Int → Int → AW → Prop) (w_0 : Value) (n_1 : Int) (k_5 : Int) (aw : AW) : Prop :=
  cnd (decide (0 ≤ k_5)) (nck w_0 (fldA w_0 0 fun p3 =>
  ldV aw p3 fun x11 =>
  0 ≤ (IntKind.i64.wrap (8 * k_5)) ∧ alcS aw [.int .u8 (IntKind.u8.wrap (Int.fdiv n_1 (2 ^ (min (IntKind.i64.wrap (8 * k_5)).toNat IntKind.u64.bits))))] 5 1 1 fun p14 aw15 =>
  again1 aw15 p3 (x11) ∧ app aw15 5 1 1 x11 p14 fun v18 aw19 =>
  nck w_0 (fldA w_0 0 fun p22 =>
  st aw19 p22 [v18] fun aw27 =>
  nx2 w_0 n_1 (IntKind.i64.wrap (k_5 - 1)) aw27))) (Q w_0 aw)
def S15_2 (Q : Value → AW → Prop) (E : List PanicEntry → AW → Prop)  : Nat → Value → Int → Int → AW → Prop
  | 0 => fun _ _ _ _ => False
  | n + 1 => S15_2s Q E  (S15_2 Q E  n)
def S15_1s (Q : Value → AW → Prop) (E : List PanicEntry → AW → Prop)  (nx1 : Value → Int → Int → AW → Prop) (w_0 : Value) (n_1 : Int) (k_5 : Int) (aw : AW) : Prop :=
  0 ≤ (IntKind.i64.wrap (8 * k_5)) ∧ cnd (decide (0 < (Int.fdiv n_1 (2 ^ (min (IntKind.i64.wrap (8 * k_5)).toNat IntKind.u64.bits))))) (cnd (decide (k_5 < 8)) (nx1 w_0 n_1 (IntKind.i64.wrap (k_5 + 1)) aw) (nck w_0 (fldA w_0 0 fun p38 =>
  ldV aw p38 fun x46 =>
  alcS aw [.int .u8 (IntKind.u8.wrap k_5)] 5 1 1 fun p48 aw49 =>
  app aw49 5 1 1 x46 p48 fun v52 aw53 =>
  nck w_0 (fldA w_0 0 fun p56 =>
  st aw53 p56 [v52] fun aw61 =>
  ∃ n, S15_2 Q E  n w_0 n_1 (IntKind.i64.wrap (k_5 - 1)) aw61)))) (nck w_0 (fldA w_0 0 fun p70 =>
  ldV aw p70 fun x78 =>
  alcS aw [.int .u8 (IntKind.u8.wrap k_5)] 5 1 1 fun p80 aw81 =>
  app aw81 5 1 1 x78 p80 fun v84 aw85 =>
  nck w_0 (fldA w_0 0 fun p88 =>
  st aw85 p88 [v84] fun aw93 =>
  ∃ n, S15_2 Q E  n w_0 n_1 (IntKind.i64.wrap (k_5 - 1)) aw93)))
def S15_1 (Q : Value → AW → Prop) (E : List PanicEntry → AW → Prop)  : Nat → Value → Int → Int → AW → Prop
  | 0 => fun _ _ _ _ => False
  | n + 1 => S15_1s Q E  (S15_1 Q E  n)
def S15_0 (Q : Value → AW → Prop) (E : List PanicEntry → AW → Prop)  (w_0 : Value) (n_1 : Int) (aw : AW) : Prop :=
  ∃ n, S15_1 Q E  n w_0 n_1 0 aw
theorem S15_2s_ok (Q : Value → AW → Prop) (E : List PanicEntry → AW → Prop)  (nx2 : Value → Int → Int → AW → Prop) (L2 : ∀ (ρ : Env) (w_0 : Value) (n_1 : Int) (k_5 : Int) (aw : AW) (h0 : ρ 0 = w_0) (h1 : ρ 1 = .int .u64 n_1) (h5 : ρ 5 = .int .i64 k_5), nx2 w_0 n_1 k_5 aw → AGo prog 49 [.code C15_22, .inLoop C15_22, .inBlock 2, .code C15_32] ρ [] aw (RR prog f15 49 sh15 Q E)) (ρ : Env) (w_0 : Value) (n_1 : Int) (k_5 : Int) (aw : AW) (h0 : ρ 0 = w_0) (h1 : ρ 1 = .int .u64 n_1) (h5 : ρ 5 = .int .i64 k_5) (H : S15_2s Q E  nx2 w_0 n_1 k_5 aw) :
    AGo prog 49 [.code C15_22, .inLoop C15_22, .inBlock 2, .code C15_32] ρ [] aw (RR prog f15 49 sh15 Q E) := by
  unfold S15_2s at H
  refine ago_seqE (rfl : C15_22 = .seq C15_23 C15_28) ?_
  refine ago_seqE (rfl : C15_23 = .seq C15_24 C15_25) ?_
  refine ago_regE (rfl : C15_24 = .region 6 R15_6 false) (l := [0, 1]) rfl ?_
  refine lj 30 R15_6_N rfl rfl rfl (opv_move rfl rfl h5) ?_
  refine lj 31 R15_6_N rfl rfl rfl (opv_ge rfl rfl rfl rfl rfl) ?_
  refine aops_nil ?_
  refine ago_condE  (rfl : C15_25 = .cond (.tmp 31) C15_26 C15_27) rfl rfl (fun hb1 => ?_) (fun hb1 => ?_)
  · replace H := cnd_t H hb1
    refine ago_skipE (rfl : C15_26 = .skip) ?_
    refine ago_seqE (rfl : C15_28 = .seq C15_29 C15_31) ?_
    refine ago_blockE (rfl : C15_29 = .block 3 C15_30) ?_
    obtain ⟨hp2, H⟩ := H
    obtain ⟨b4, i5, p3, hp6, hv7, H⟩ := H
    obtain ⟨b8, i9, x11, hp10, hg12, H⟩ := H
    obtain ⟨hz13, H⟩ := H
    refine ago_drawH (p := [0, 1, 2, 3, 4, 5, 6, 7, 8, 9]) (tl := [(10, [0, 1, 2, 3, 4], []), (11, [0], [12, 13]), (14, [], [])]) (hv := [(0, w_0), (1, w_0), (2, w_0), (3, p3), (4, x11), (5, Value.int .u64 n_1), (6, Value.int .i64 k_5), (7, Value.int .i64 (IntKind.i64.wrap (8 * k_5))), (8, Value.int .u64 (Int.fdiv n_1 (2 ^ (min (IntKind.i64.wrap (8 * k_5)).toNat IntKind.u64.bits)))), (9, Value.int .u8 (IntKind.u8.wrap (Int.fdiv n_1 (2 ^ (min (IntKind.i64.wrap (8 * k_5)).toNat IntKind.u64.bits)))))]) (rfl : C15_30 = .region 8 R15_8 true) mixed R15_8_N R15_8_O rfl (pv_cons rfl (pv_cons rfl (pv_cons rfl (pv_cons rfl (pv_cons rfl (pv_cons rfl (pv_cons rfl (pv_cons rfl (pv_cons rfl (pv_cons rfl (pv_nil _)))))))))))
      (fc 34 w_0 (hd_v rfl fun ρ hρ => ⟨rfl, opv_move rfl rfl ((hρ 0 (lmem rfl)).trans h0)⟩) rfl rfl
      (fc 35 w_0 (hd_v rfl fun ρ hρ => ⟨rfl, opv_move rfl rfl ((hρ 0 (lmem rfl)).trans h0)⟩) rfl rfl
      (fc 36 w_0 (hd_v rfl fun ρ hρ => ⟨rfl, ov_nck rfl rfl ((hρ 35 (lmem rfl)).trans rfl) hp2⟩) rfl rfl
      (fc 37 p3 (hd_v rfl fun ρ hρ => ⟨rfl, ov_fldA rfl rfl underlying47 rfl sz30 (by decide) ((hρ 36 (lmem rfl)).trans rfl) hp6 rfl hv7⟩) rfl rfl
      (fc 38 x11 (hd_v rfl fun ρ hρ => ⟨rfl, ov_ldV rfl underlying30 rfl rfl ((hρ 37 (lmem rfl)).trans rfl) hp10 hg12⟩) rfl rfl
      (fc 39 (.int .u64 n_1) (hd_v rfl fun ρ hρ => ⟨rfl, opv_move rfl rfl ((hρ 1 (lmem rfl)).trans h1)⟩) rfl rfl
      (fc 40 (.int .i64 k_5) (hd_v rfl fun ρ hρ => ⟨rfl, opv_move rfl rfl ((hρ 5 (lmem rfl)).trans h5)⟩) rfl rfl
      (fc 41 (.int .i64 (IntKind.i64.wrap (8 * k_5))) (hd_v rfl fun ρ hρ => ⟨rfl, opv_mul rfl rfl rfl rfl ((hρ 40 (lmem rfl)).trans rfl)⟩) rfl rfl
      (fc 42 (.int .u64 (Int.fdiv n_1 (2 ^ (min (IntKind.i64.wrap (8 * k_5)).toNat IntKind.u64.bits)))) (hd_v rfl fun ρ hρ => ⟨rfl, opv_shr rfl rfl rfl ((hρ 39 (lmem rfl)).trans rfl) ((hρ 41 (lmem rfl)).trans rfl) hz13⟩) rfl rfl
      (fc 43 (.int .u8 (IntKind.u8.wrap (Int.fdiv n_1 (2 ^ (min (IntKind.i64.wrap (8 * k_5)).toNat IntKind.u64.bits))))) (hd_v rfl fun ρ hρ => ⟨rfl, opv_conv rfl rfl underlying39 underlying5 ((hρ 42 (lmem rfl)).trans rfl)⟩) rfl rfl
      ffn)))))))))) ?_
    obtain ⟨p14, aw15, hp16, ha17, H⟩ := H
    refine lt_val (dt := some 44) (v := p14) rfl rfl (fun ρ hρ => ⟨rfl, ov_bsA (r := [.int .u8 (IntKind.u8.wrap (Int.fdiv n_1 (2 ^ (min (IntKind.i64.wrap (8 * k_5)).toNat IntKind.u64.bits))))]) (vs := [.int .u8 (IntKind.u8.wrap (Int.fdiv n_1 (2 ^ (min (IntKind.i64.wrap (8 * k_5)).toNat IntKind.u64.bits))))]) rfl rfl underlying30 sz5 z5 rfl rfl rfl rfl rfl (mp_cons ((hρ 43 (lmem rfl)).trans rfl) rfl) (.one rfl .nil) hp16 ha17⟩) ?_
    obtain ⟨hg12, H⟩ := H
    replace hg12 := hg12 _ _ hp10
    refine lt_next (l := [0, 1, 2, 3, 4]) (hv := []) rfl rfl (pv_nil _)
      (fc 34 w_0 (hd_v rfl fun ρ hρ => ⟨rfl, opv_move rfl rfl ((hρ 0 (lmem rfl)).trans h0)⟩) rfl rfl
      (fc 35 w_0 (hd_v rfl fun ρ hρ => ⟨rfl, opv_move rfl rfl ((hρ 0 (lmem rfl)).trans h0)⟩) rfl rfl
      (fc 36 w_0 (hd_v rfl fun ρ hρ => ⟨rfl, ov_nck rfl rfl ((hρ 35 (lmem rfl)).trans rfl) hp2⟩) rfl rfl
      (fc 37 p3 (hd_v rfl fun ρ hρ => ⟨rfl, ov_fldA rfl rfl underlying47 rfl sz30 (by decide) ((hρ 36 (lmem rfl)).trans rfl) hp6 rfl hv7⟩) rfl rfl
      (fc 38 x11 (hd_v rfl fun ρ hρ => ⟨rfl, ov_ldV rfl underlying30 rfl rfl ((hρ 37 (lmem rfl)).trans rfl) hp10 hg12⟩) rfl rfl
      ffn))))) ?_
    obtain ⟨v18, aw19, hq20, H⟩ := H
    refine lt_val (dt := some 45) (v := v18) rfl rfl (fun ρ hρ => ⟨rfl, ov_app rfl rfl rfl rfl underlying30 sz5 by5 underlying30 rfl z5 rfl (by decide) (by decide) ((hρ 38 (lmem rfl)).trans rfl) ((hρ 44 (lmem rfl)).trans rfl) hq20⟩) ?_
    obtain ⟨hp21, H⟩ := H
    obtain ⟨b23, i24, p22, hp25, hv26, H⟩ := H
    refine lt_next (l := [0, 12, 13]) (hv := [(12, w_0), (13, p22)]) rfl rfl (pv_cons rfl (pv_cons rfl (pv_nil _)))
      (fc 34 w_0 (hd_v rfl fun ρ hρ => ⟨rfl, opv_move rfl rfl ((hρ 0 (lmem rfl)).trans h0)⟩) rfl rfl
      (fc 46 w_0 (hd_v rfl fun ρ hρ => ⟨rfl, ov_nck rfl rfl ((hρ 34 (lmem rfl)).trans rfl) hp21⟩) rfl rfl
      (fc 47 p22 (hd_v rfl fun ρ hρ => ⟨rfl, ov_fldA rfl rfl underlying47 rfl sz30 (by decide) ((hρ 46 (lmem rfl)).trans rfl) hp25 rfl hv26⟩) rfl rfl
      ffn))) ?_
    obtain ⟨b28, i29, aw27, hp30, hw31, ho32, ha33, H⟩ := H
    refine lt_val (dt := none) (v := undef) rfl rfl (fun ρ hρ => ⟨rfl, ov_st rfl rfl rfl ((hρ 47 (lmem rfl)).trans rfl) ((hρ 45 (lmem rfl)).trans rfl) (cells_all ho32) sz30 hp30 hw31 ho32 ha33⟩) ?_
    refine lt_next (l := []) (hv := []) rfl rfl (pv_nil _)
      ffn ?_
    refine lt_end ?_
    refine ago_inBlock ?_
    refine ago_cut (fun ρ => ρ 0 = w_0 ∧ ρ 1 = .int .u64 n_1 ∧ ρ 5 = .int .i64 k_5 ∧ True) ⟨h0, h1, h5, trivial⟩ (fun ρ ⟨h0, h1, h5, _⟩ => ?_)
    refine ago_regE (rfl : C15_31 = .region 7 R15_7 false) (l := [0, 1, 2]) rfl ?_
    refine lj 32 R15_7_N rfl rfl rfl (opv_move rfl rfl h5) ?_
    refine lj 33 R15_7_N rfl rfl rfl (opv_sub rfl rfl rfl rfl rfl) ?_
    refine lj 5 R15_7_N rfl rfl rfl (opv_assign rfl rfl rfl) ?_
    refine aops_nil ?_
    refine ago_inLoop ?_
    exact L2 _ w_0 n_1 (IntKind.i64.wrap (k_5 - 1)) aw27 h0 h1 rfl H
  replace H := cnd_f H hb1
  refine ago_exitE (rfl : C15_27 = .exit 2) rfl ?_
  refine ago_seqE (rfl : C15_32 = .seq C15_33 C15_34) ?_
  refine ago_regE (rfl : C15_33 = .region 9 R15_9 false) (l := [0, 1]) rfl ?_
  refine lj 48 R15_9_N rfl rfl rfl (opv_move rfl rfl h0) ?_
  refine lj 4 R15_9_N rfl rfl rfl (opv_assign rfl rfl rfl) ?_
  refine aops_nil ?_
  exact ago_retE (rfl : C15_34 = .ret) (r := w_0) (ares_1 rfl (oneT rfl)) rfl H
theorem S15_2_ok (Q : Value → AW → Prop) (E : List PanicEntry → AW → Prop)  : ∀ (n : Nat) (ρ : Env) (w_0 : Value) (n_1 : Int) (k_5 : Int) (aw : AW) (h0 : ρ 0 = w_0) (h1 : ρ 1 = .int .u64 n_1) (h5 : ρ 5 = .int .i64 k_5), S15_2 Q E  n w_0 n_1 k_5 aw →
    AGo prog 49 [.code C15_22, .inLoop C15_22, .inBlock 2, .code C15_32] ρ [] aw (RR prog f15 49 sh15 Q E)
  | 0, _, _, _, _, _, _, _, _ => fun H => H.elim
  | n + 1, ρ, w_0, n_1, k_5, aw, h0, h1, h5 => fun H => S15_2s_ok Q E  _ (S15_2_ok Q E  n) ρ w_0 n_1 k_5 aw h0 h1 h5 H
theorem S15_1s_ok (Q : Value → AW → Prop) (E : List PanicEntry → AW → Prop)  (nx1 : Value → Int → Int → AW → Prop) (L1 : ∀ (ρ : Env) (w_0 : Value) (n_1 : Int) (k_5 : Int) (aw : AW) (h0 : ρ 0 = w_0) (h1 : ρ 1 = .int .u64 n_1) (h5 : ρ 5 = .int .i64 k_5), nx1 w_0 n_1 k_5 aw → AGo prog 49 [.code C15_7, .inLoop C15_7, .inBlock 0, .code C15_15] ρ [] aw (RR prog f15 49 sh15 Q E)) (ρ : Env) (w_0 : Value) (n_1 : Int) (k_5 : Int) (aw : AW) (h0 : ρ 0 = w_0) (h1 : ρ 1 = .int .u64 n_1) (h5 : ρ 5 = .int .i64 k_5) (H : S15_1s Q E  nx1 w_0 n_1 k_5 aw) :
    AGo prog 49 [.code C15_7, .inLoop C15_7, .inBlock 0, .code C15_15] ρ [] aw (RR prog f15 49 sh15 Q E) := by
  unfold S15_1s at H
  refine ago_seqE (rfl : C15_7 = .seq C15_8 C15_13) ?_
  refine ago_seqE (rfl : C15_8 = .seq C15_9 C15_10) ?_
  refine ago_regE (rfl : C15_9 = .region 2 R15_2 false) (l := [0, 1, 2, 3, 4, 5, 6, 7, 8]) rfl ?_
  refine lj 6 R15_2_N rfl rfl rfl (opv_move rfl rfl h1) ?_
  refine lj 7 R15_2_N rfl rfl rfl (opv_move rfl rfl h5) ?_
  refine lj 8 R15_2_N rfl rfl rfl (opv_mul rfl rfl rfl rfl rfl) ?_
  obtain ⟨hz34, H⟩ := H
  refine lj 9 R15_2_N rfl rfl rfl (opv_shr rfl rfl rfl rfl rfl hz34) ?_
  refine lj 10 R15_2_N rfl rfl rfl (opv_gt rfl rfl rfl rfl rfl) ?_
  refine lj 11 R15_2_N rfl rfl rfl (opv_move rfl rfl rfl) ?_
  rcases Bool.eq_false_or_eq_true (decide (0 < (Int.fdiv n_1 (2 ^ (min (IntKind.i64.wrap (8 * k_5)).toNat IntKind.u64.bits))))) with hb35 | hb35
  · replace H := cnd_t H hb35
    refine lj 12 R15_2_N rfl rfl ⟨_, rfl, .inl ⟨_, rfl, gq hb35 rfl⟩⟩ (opv_move rfl rfl h5) ?_
    refine lj 13 R15_2_N rfl rfl ⟨_, rfl, .inl ⟨_, rfl, gq hb35 rfl⟩⟩ (opv_lt rfl rfl rfl rfl rfl) ?_
    refine lj 14 R15_2_N rfl rfl rfl (ov_pickT rfl rfl rfl rfl rfl hb35 rfl) ?_
    refine aops_nil ?_
    refine ago_condE  (rfl : C15_10 = .cond (.tmp 14) C15_11 C15_12) rfl rfl (fun hb36 => ?_) (fun hb36 => ?_)
    · replace H := cnd_t H hb36
      refine ago_skipE (rfl : C15_11 = .skip) ?_
      refine ago_blockE (rfl : C15_13 = .block 1 C15_14) ?_
      refine ago_regE (rfl : C15_14 = .region 3 R15_3 false) (l := [0, 1, 2]) rfl ?_
      refine lj 15 R15_3_N rfl rfl rfl (opv_move rfl rfl h5) ?_
      refine lj 16 R15_3_N rfl rfl rfl (opv_add rfl rfl rfl rfl rfl) ?_
      refine lj 5 R15_3_N rfl rfl rfl (opv_assign rfl rfl rfl) ?_
      refine aops_nil ?_
      refine ago_inBlock ?_
      refine ago_inLoop ?_
      exact L1 _ w_0 n_1 (IntKind.i64.wrap (k_5 + 1)) aw h0 h1 rfl H
    replace H := cnd_f H hb36
    refine ago_exitE (rfl : C15_12 = .exit 0) rfl ?_
    refine ago_seqE (rfl : C15_15 = .seq C15_16 C15_17) ?_
    refine ago_regE (rfl : C15_16 = .region 4 R15_4 false) (l := [0, 1, 2, 3, 4, 5, 6, 7, 8, 9, 10, 11]) rfl ?_
    refine lj 17 R15_4_N rfl rfl rfl (opv_move rfl rfl h0) ?_
    refine lj 18 R15_4_N rfl rfl rfl (opv_move rfl rfl h0) ?_
    obtain ⟨hp37, H⟩ := H
    refine lj 19 R15_4_N rfl rfl rfl (ov_nck rfl rfl rfl hp37) ?_
    obtain ⟨b39, i40, p38, hp41, hv42, H⟩ := H
    refine lj 20 R15_4_N rfl rfl rfl (ov_fldA rfl rfl underlying47 rfl sz30 (by decide) rfl hp41 rfl hv42) ?_
    obtain ⟨b43, i44, x46, hp45, hg47, H⟩ := H
    refine lj 21 R15_4_N rfl rfl rfl (ov_ldV rfl underlying30 rfl rfl rfl hp45 hg47) ?_
    refine lj 22 R15_4_N rfl rfl rfl (opv_move rfl rfl h5) ?_
    refine lj 23 R15_4_N rfl rfl rfl (opv_conv rfl rfl underlying3 underlying5 rfl) ?_
    obtain ⟨p48, aw49, hp50, ha51, H⟩ := H
    refine lj 24 R15_4_N rfl rfl rfl (ov_bsA (r := [.int .u8 (IntKind.u8.wrap k_5)]) (vs := [.int .u8 (IntKind.u8.wrap k_5)]) rfl rfl underlying30 sz5 z5 rfl rfl rfl rfl rfl (mp_cons rfl rfl) (.one rfl .nil) hp50 ha51) ?_
    obtain ⟨v52, aw53, hq54, H⟩ := H
    refine lj 25 R15_4_N rfl rfl rfl (ov_app rfl rfl rfl rfl underlying30 sz5 by5 underlying30 rfl z5 rfl (by decide) (by decide) rfl rfl hq54) ?_
    obtain ⟨hp55, H⟩ := H
    refine lj 26 R15_4_N rfl rfl rfl (ov_nck rfl rfl rfl hp55) ?_
    obtain ⟨b57, i58, p56, hp59, hv60, H⟩ := H
    refine lj 27 R15_4_N rfl rfl rfl (ov_fldA rfl rfl underlying47 rfl sz30 (by decide) rfl hp59 rfl hv60) ?_
    obtain ⟨b62, i63, aw61, hp64, hw65, ho66, ha67, H⟩ := H
    refine lk (dt := none) R15_4_N rfl rfl rfl (ov_st rfl rfl rfl rfl rfl (cells_all ho66) sz30 hp64 hw65 ho66 ha67) ?_
    refine aops_nil ?_
    refine ago_seqE (rfl : C15_17 = .seq C15_18 C15_32) ?_
    refine ago_seqE (rfl : C15_18 = .seq C15_19 C15_20) ?_
    refine ago_cut (fun ρ => ρ 0 = w_0 ∧ ρ 1 = .int .u64 n_1 ∧ ρ 5 = .int .i64 k_5 ∧ True) ⟨h0, h1, h5, trivial⟩ (fun ρ ⟨h0, h1, h5, _⟩ => ?_)
    refine ago_regE (rfl : C15_19 = .region 5 R15_5 false) (l := [0, 1, 2]) rfl ?_
    refine lj 28 R15_5_N rfl rfl rfl (opv_move rfl rfl h5) ?_
    refine lj 29 R15_5_N rfl rfl rfl (opv_sub rfl rfl rfl rfl rfl) ?_
    refine lj 5 R15_5_N rfl rfl rfl (opv_assign rfl rfl rfl) ?_
    refine aops_nil ?_
    refine ago_blockE (rfl : C15_20 = .block 2 C15_21) ?_
    refine ago_loopE (rfl : C15_21 = .loop C15_22) ?_
    obtain ⟨n, H⟩ := H
    exact S15_2_ok Q E  n _ w_0 n_1 (IntKind.i64.wrap (k_5 - 1)) aw61 h0 h1 rfl H
  · replace H := cnd_f H hb35
    refine ls 12 R15_2_N rfl rfl ⟨_, rfl, .inl ⟨_, rfl, gq hb35 rfl⟩⟩ ?_
    refine ls 13 R15_2_N rfl rfl ⟨_, rfl, .inl ⟨_, rfl, gq hb35 rfl⟩⟩ ?_
    refine lj 14 R15_2_N rfl rfl rfl (ov_pickF rfl rfl rfl rfl rfl hb35 rfl) ?_
    refine aops_nil ?_
    refine ago_condE  (rfl : C15_10 = .cond (.tmp 14) C15_11 C15_12) rfl rfl (fun h => ft h) (fun h => ?_)
    refine ago_exitE (rfl : C15_12 = .exit 0) rfl ?_
    refine ago_seqE (rfl : C15_15 = .seq C15_16 C15_17) ?_
    refine ago_regE (rfl : C15_16 = .region 4 R15_4 false) (l := [0, 1, 2, 3, 4, 5, 6, 7, 8, 9, 10, 11]) rfl ?_
    refine lj 17 R15_4_N rfl rfl rfl (opv_move rfl rfl h0) ?_
    refine lj 18 R15_4_N rfl rfl rfl (opv_move rfl rfl h0) ?_
    obtain ⟨hp69, H⟩ := H
    refine lj 19 R15_4_N rfl rfl rfl (ov_nck rfl rfl rfl hp69) ?_
    obtain ⟨b71, i72, p70, hp73, hv74, H⟩ := H
    refine lj 20 R15_4_N rfl rfl rfl (ov_fldA rfl rfl underlying47 rfl sz30 (by decide) rfl hp73 rfl hv74) ?_
    obtain ⟨b75, i76, x78, hp77, hg79, H⟩ := H
    refine lj 21 R15_4_N rfl rfl rfl (ov_ldV rfl underlying30 rfl rfl rfl hp77 hg79) ?_
    refine lj 22 R15_4_N rfl rfl rfl (opv_move rfl rfl h5) ?_
    refine lj 23 R15_4_N rfl rfl rfl (opv_conv rfl rfl underlying3 underlying5 rfl) ?_
    obtain ⟨p80, aw81, hp82, ha83, H⟩ := H
    refine lj 24 R15_4_N rfl rfl rfl (ov_bsA (r := [.int .u8 (IntKind.u8.wrap k_5)]) (vs := [.int .u8 (IntKind.u8.wrap k_5)]) rfl rfl underlying30 sz5 z5 rfl rfl rfl rfl rfl (mp_cons rfl rfl) (.one rfl .nil) hp82 ha83) ?_
    obtain ⟨v84, aw85, hq86, H⟩ := H
    refine lj 25 R15_4_N rfl rfl rfl (ov_app rfl rfl rfl rfl underlying30 sz5 by5 underlying30 rfl z5 rfl (by decide) (by decide) rfl rfl hq86) ?_
    obtain ⟨hp87, H⟩ := H
    refine lj 26 R15_4_N rfl rfl rfl (ov_nck rfl rfl rfl hp87) ?_
    obtain ⟨b89, i90, p88, hp91, hv92, H⟩ := H
    refine lj 27 R15_4_N rfl rfl rfl (ov_fldA rfl rfl underlying47 rfl sz30 (by decide) rfl hp91 rfl hv92) ?_
    obtain ⟨b94, i95, aw93, hp96, hw97, ho98, ha99, H⟩ := H
    refine lk (dt := none) R15_4_N rfl rfl rfl (ov_st rfl rfl rfl rfl rfl (cells_all ho98) sz30 hp96 hw97 ho98 ha99) ?_
    refine aops_nil ?_
    refine ago_seqE (rfl : C15_17 = .seq C15_18 C15_32) ?_
    refine ago_seqE (rfl : C15_18 = .seq C15_19 C15_20) ?_
    refine ago_cut (fun ρ => ρ 0 = w_0 ∧ ρ 1 = .int .u64 n_1 ∧ ρ 5 = .int .i64 k_5 ∧ True) ⟨h0, h1, h5, trivial⟩ (fun ρ ⟨h0, h1, h5, _⟩ => ?_)
    refine ago_regE (rfl : C15_19 = .region 5 R15_5 false) (l := [0, 1, 2]) rfl ?_
    refine lj 28 R15_5_N rfl rfl rfl (opv_move rfl rfl h5) ?_
    refine lj 29 R15_5_N rfl rfl rfl (opv_sub rfl rfl rfl rfl rfl) ?_
    refine lj 5 R15_5_N rfl rfl rfl (opv_assign rfl rfl rfl) ?_
    refine aops_nil ?_
    refine ago_blockE (rfl : C15_20 = .block 2 C15_21) ?_
    refine ago_loopE (rfl : C15_21 = .loop C15_22) ?_
    obtain ⟨n, H⟩ := H
    exact S15_2_ok Q E  n _ w_0 n_1 (IntKind.i64.wrap (k_5 - 1)) aw93 h0 h1 rfl H
theorem S15_1_ok (Q : Value → AW → Prop) (E : List PanicEntry → AW → Prop)  : ∀ (n : Nat) (ρ : Env) (w_0 : Value) (n_1 : Int) (k_5 : Int) (aw : AW) (h0 : ρ 0 = w_0) (h1 : ρ 1 = .int .u64 n_1) (h5 : ρ 5 = .int .i64 k_5), S15_1 Q E  n w_0 n_1 k_5 aw →
    AGo prog 49 [.code C15_7, .inLoop C15_7, .inBlock 0, .code C15_15] ρ [] aw (RR prog f15 49 sh15 Q E)
  | 0, _, _, _, _, _, _, _, _ => fun H => H.elim
  | n + 1, ρ, w_0, n_1, k_5, aw, h0, h1, h5 => fun H => S15_1s_ok Q E  _ (S15_1_ok Q E  n) ρ w_0 n_1 k_5 aw h0 h1 h5 H
theorem S15_0_ok (Q : Value → AW → Prop) (E : List PanicEntry → AW → Prop)  (ρ : Env) (w_0 : Value) (n_1 : Int) (aw : AW) (h0 : ρ 0 = w_0) (h1 : ρ 1 = .int .u64 n_1) (H : S15_0 Q E  w_0 n_1 aw) :
    AGo prog 49 [.code C15_0] ρ [] aw (RR prog f15 49 sh15 Q E) := by
  unfold S15_0 at H
  refine ago_seqE (rfl : C15_0 = .seq C15_1 C15_2) ?_
  refine ago_regE (rfl : C15_1 = .region 0 R15_0 false) (l := [0]) rfl ?_
  refine lj 4 R15_0_N rfl rfl rfl (opv_assign rfl rfl rfl) ?_
  refine aops_nil ?_
  refine ago_seqE (rfl : C15_2 = .seq C15_3 C15_4) ?_
  refine ago_regE (rfl : C15_3 = .region 1 R15_1 false) (l := [0]) rfl ?_
  refine lj 5 R15_1_N rfl rfl rfl (opv_assign rfl rfl rfl) ?_
  refine aops_nil ?_
  refine ago_seqE (rfl : C15_4 = .seq C15_5 C15_15) ?_
  refine ago_blockE (rfl : C15_5 = .block 0 C15_6) ?_
  refine ago_loopE (rfl : C15_6 = .loop C15_7) ?_
  obtain ⟨n, H⟩ := H
  exact S15_1_ok Q E  n _ w_0 n_1 0 aw h0 h1 rfl H
theorem F15_ok {Q : Value → AW → Prop} {E : List PanicEntry → AW → Prop} (w_0 : Value) (n_1 : Int) (aw : AW) (H : S15_0 Q E w_0 n_1 aw) : CallP prog 15 [w_0, .int .u64 n_1] aw sh15 Q E :=
  callP_of func15 C15_is rfl (Nat.le_of_ble_eq_true rfl) (S15_0_ok Q E _ w_0 n_1 aw rfl rfl H)
def C31_0 := bodyOf f31
theorem C31_is : f31.body = some C31_0 := by kernel_rfl
def C31_1 := cl C31_0
def R31_0 := regOps C31_1
def C31_2 := cr C31_0
def C31_3 := cl C31_2
def R31_1 := regOps C31_3
def C31_4 := cr C31_2
def C31_5 := cl C31_4
def R31_2 := regOps C31_5
def C31_6 := cr C31_4
def C31_7 := cl C31_6
def R31_3 := regOps C31_7
def C31_8 := cr C31_6
theorem R31_0_N : dstsOk 20 R31_0 = true := by decide +kernel
theorem R31_1_N : dstsOk 20 R31_1 = true := by decide +kernel
theorem R31_2_N : dstsOk 20 R31_2 = true := by decide +kernel
theorem R31_3_N : dstsOk 20 R31_3 = true := by decide +kernel
def S31_0 (Q : Value → AW → Prop) (E : List PanicEntry → AW → Prop)  (w_0 : Value) (b_1 : Value) (aw : AW) : Prop :=
  slen b_1 fun n1 =>
  CallP prog 15 [w_0, .int .u64 (IntKind.u64.wrap n1)] aw sh15 (fun r7 aw8 =>
  nck w_0 (fldA w_0 0 fun p10 =>
  ldV aw8 p10 fun x18 =>
  app aw8 5 1 1 x18 b_1 fun v20 aw21 =>
  nck w_0 (fldA w_0 0 fun p24 =>
  st aw21 p24 [v20] fun aw29 =>
  Q w_0 aw29))) E
theorem S31_0_ok (Q : Value → AW → Prop) (E : List PanicEntry → AW → Prop)  (ρ : Env) (w_0 : Value) (b_1 : Value) (aw : AW) (h0 : ρ 0 = w_0) (h1 : ρ 1 = b_1) (H : S31_0 Q E  w_0 b_1 aw) :
    AGo prog 20 [.code C31_0] ρ [] aw (RR prog f31 20 sh31 Q E) := by
  unfold S31_0 at H
  refine ago_seqE (rfl : C31_0 = .seq C31_1 C31_2) ?_
  refine ago_regE (rfl : C31_1 = .region 0 R31_0 false) (l := [0]) rfl ?_
  refine lj 4 R31_0_N rfl rfl rfl (opv_assign rfl rfl rfl) ?_
  refine aops_nil ?_
  refine ago_seqE (rfl : C31_2 = .seq C31_3 C31_4) ?_
  refine ago_regE (rfl : C31_3 = .region 1 R31_1 false) (l := [0, 1, 2, 3, 4]) rfl ?_
  refine lj 5 R31_1_N rfl rfl rfl (opv_move rfl rfl h0) ?_
  refine lj 6 R31_1_N rfl rfl rfl (opv_move rfl rfl h1) ?_
  obtain ⟨q2, l3, c4, n1, hv5, hn6, H⟩ := H
  refine lj 7 R31_1_N rfl rfl rfl (ov_len rfl rfl rfl underlying30 rfl hv5 hn6) ?_
  refine lj 8 R31_1_N rfl rfl rfl (opv_conv rfl rfl underlying3 underlying39 rfl) ?_
  refine lc 9 R31_1_N rfl rfl rfl (opc_of rfl rfl is15 (ma_cons rfl (ma_cons rfl rfl))) H (fun _ _ h => ⟨rfl, h⟩) fun r7 aw8 H => ?_
  refine aops_nil ?_
  refine ago_seqE (rfl : C31_4 = .seq C31_5 C31_6) ?_
  refine ago_regE (rfl : C31_5 = .region 2 R31_2 false) (l := [0, 1, 2, 3, 4, 5, 6, 7, 8, 9]) rfl ?_
  refine lj 10 R31_2_N rfl rfl rfl (opv_move rfl rfl h0) ?_
  refine lj 11 R31_2_N rfl rfl rfl (opv_move rfl rfl h0) ?_
  obtain ⟨hp9, H⟩ := H
  refine lj 12 R31_2_N rfl rfl rfl (ov_nck rfl rfl rfl hp9) ?_
  obtain ⟨b11, i12, p10, hp13, hv14, H⟩ := H
  refine lj 13 R31_2_N rfl rfl rfl (ov_fldA rfl rfl underlying47 rfl sz30 (by decide) rfl hp13 rfl hv14) ?_
  obtain ⟨b15, i16, x18, hp17, hg19, H⟩ := H
  refine lj 14 R31_2_N rfl rfl rfl (ov_ldV rfl underlying30 rfl rfl rfl hp17 hg19) ?_
  refine lj 15 R31_2_N rfl rfl rfl (opv_move rfl rfl h1) ?_
  obtain ⟨v20, aw21, hq22, H⟩ := H
  refine lj 16 R31_2_N rfl rfl rfl (ov_app rfl rfl rfl rfl underlying30 sz5 by5 underlying30 rfl z5 rfl (by decide) (by decide) rfl rfl hq22) ?_
  obtain ⟨hp23, H⟩ := H
  refine lj 17 R31_2_N rfl rfl rfl (ov_nck rfl rfl rfl hp23) ?_
  obtain ⟨b25, i26, p24, hp27, hv28, H⟩ := H
  refine lj 18 R31_2_N rfl rfl rfl (ov_fldA rfl rfl underlying47 rfl sz30 (by decide) rfl hp27 rfl hv28) ?_
  obtain ⟨b30, i31, aw29, hp32, hw33, ho34, ha35, H⟩ := H
  refine lk (dt := none) R31_2_N rfl rfl rfl (ov_st rfl rfl rfl rfl rfl (cells_all ho34) sz30 hp32 hw33 ho34 ha35) ?_
  refine aops_nil ?_
  refine ago_seqE (rfl : C31_6 = .seq C31_7 C31_8) ?_
  refine ago_cut (fun ρ => ρ 0 = w_0 ∧ True) ⟨h0, trivial⟩ (fun ρ ⟨h0, _⟩ => ?_)
  refine ago_regE (rfl : C31_7 = .region 3 R31_3 false) (l := [0, 1]) rfl ?_
  refine lj 19 R31_3_N rfl rfl rfl (opv_move rfl rfl h0) ?_
  refine lj 4 R31_3_N rfl rfl rfl (opv_assign rfl rfl rfl) ?_
  refine aops_nil ?_
  exact ago_retE (rfl : C31_8 = .ret) (r := w_0) (ares_1 rfl (oneT rfl)) rfl H
theorem F31_ok {Q : Value → AW → Prop} {E : List PanicEntry → AW → Prop} (w_0 : Value) (b_1 : Value) (aw : AW) (H : S31_0 Q E w_0 b_1 aw) : CallP prog 31 [w_0, b_1] aw sh31 Q E :=
  callP_of func31 C31_is rfl (Nat.le_of_ble_eq_true rfl) (S31_0_ok Q E _ w_0 b_1 aw rfl rfl H)
def C13_0 := bodyOf f13
theorem C13_is : f13.body = some C13_0 := by kernel_rfl
def C13_1 := cl C13_0
def R13_0 := regOps C13_1
def C13_2 := cr C13_0
def C13_3 := cl C13_2
def R13_1 := regOps C13_3
def C13_4 := cr C13_2
theorem R13_0_N : dstsOk 14 R13_0 = true := by decide +kernel
theorem R13_1_N : dstsOk 14 R13_1 = true := by decide +kernel
def S13_0 (Q : Value → AW → Prop) (E : List PanicEntry → AW → Prop)  (w_0 : Value) (n_1 : Int) (aw : AW) : Prop :=
  CallP prog 15 [w_0, .int .u64 (bitsOf .xor .u64 (IntKind.u64.wrap (IntKind.i64.wrap (n_1 * 2 ^ (min (1 : Int).toNat IntKind.i64.bits)))) (IntKind.u64.wrap (Int.fdiv n_1 (2 ^ (min (63 : Int).toNat IntKind.i64.bits)))))] aw sh15 (fun r1 aw2 =>
  Q r1 aw2) E
theorem S13_0_ok (Q : Value → AW → Prop) (E : List PanicEntry → AW → Prop)  (ρ : Env) (w_0 : Value) (n_1 : Int) (aw : AW) (h0 : ρ 0 = w_0) (h1 : ρ 1 = .int .i64 n_1) (H : S13_0 Q E  w_0 n_1 aw) :
    AGo prog 14 [.code C13_0] ρ [] aw (RR prog f13 14 sh13 Q E) := by
  unfold S13_0 at H
  refine ago_seqE (rfl : C13_0 = .seq C13_1 C13_2) ?_
  refine ago_regE (rfl : C13_1 = .region 0 R13_0 false) (l := [0]) rfl ?_
  refine lj 4 R13_0_N rfl rfl rfl (opv_assign rfl rfl rfl) ?_
  refine aops_nil ?_
  refine ago_seqE (rfl : C13_2 = .seq C13_3 C13_4) ?_
  refine ago_regE (rfl : C13_3 = .region 1 R13_1 false) (l := [0, 1, 2, 3, 4, 5, 6, 7, 8, 9]) rfl ?_
  refine lj 5 R13_1_N rfl rfl rfl (opv_move rfl rfl h0) ?_
  refine lj 6 R13_1_N rfl rfl rfl (opv_move rfl rfl h1) ?_
  refine lj 7 R13_1_N rfl rfl rfl (opv_shl rfl rfl rfl rfl rfl (by decide)) ?_
  refine lj 8 R13_1_N rfl rfl rfl (opv_conv rfl rfl underlying2 underlying39 rfl) ?_
  refine lj 9 R13_1_N rfl rfl rfl (opv_move rfl rfl h1) ?_
  refine lj 10 R13_1_N rfl rfl rfl (opv_shr rfl rfl rfl rfl rfl (by decide)) ?_
  refine lj 11 R13_1_N rfl rfl rfl (opv_conv rfl rfl underlying2 underlying39 rfl) ?_
  refine lj 12 R13_1_N rfl rfl rfl (opv_xor rfl rfl rfl rfl rfl) ?_
  refine lc 13 R13_1_N rfl rfl rfl (opc_of rfl rfl is15 (ma_cons rfl (ma_cons rfl rfl))) H (fun _ _ h => ⟨rfl, h⟩) fun r1 aw2 H => ?_
  refine lj 4 R13_1_N rfl rfl rfl (opv_assign rfl rfl rfl) ?_
  refine aops_nil ?_
  exact ago_retE (rfl : C13_4 = .ret) (r := r1) (ares_1 rfl (oneT rfl)) rfl H
theorem F13_ok {Q : Value → AW → Prop} {E : List PanicEntry → AW → Prop} (w_0 : Value) (n_1 : Int) (aw : AW) (H : S13_0 Q E w_0 n_1 aw) : CallP prog 13 [w_0, .int .i64 n_1] aw sh13 Q E :=
  callP_of func13 C13_is rfl (Nat.le_of_ble_eq_true rfl) (S13_0_ok Q E _ w_0 n_1 aw rfl rfl H)
def C14_0 := bodyOf f14
theorem C14_is : f14.body = some C14_0 := by kernel_rfl
def C14_1 := cl C14_0
def R14_0 := regOps C14_1
def C14_2 := cr C14_0
def C14_3 := cl C14_2
def R14_1 := regOps C14_3
def C14_4 := cr C14_2
theorem R14_0_N : dstsOk 9 R14_0 = true := by decide +kernel
theorem R14_1_N : dstsOk 9 R14_1 = true := by decide +kernel
def S14_0 (Q : Value → AW → Prop) (E : List PanicEntry → AW → Prop)  (w_0 : Value) (s_1 : ByteArray) (aw : AW) : Prop :=
  toB aw s_1 5 fun p1 aw2 =>
  CallP prog 31 [w_0, p1] aw2 sh31 (fun r5 aw6 =>
  Q r5 aw6) E
theorem S14_0_ok (Q : Value → AW → Prop) (E : List PanicEntry → AW → Prop)  (ρ : Env) (w_0 : Value) (s_1 : ByteArray) (aw : AW) (h0 : ρ 0 = w_0) (h1 : ρ 1 = .string s_1) (H : S14_0 Q E  w_0 s_1 aw) :
    AGo prog 9 [.code C14_0] ρ [] aw (RR prog f14 9 sh14 Q E) := by
  unfold S14_0 at H
  refine ago_seqE (rfl : C14_0 = .seq C14_1 C14_2) ?_
  refine ago_regE (rfl : C14_1 = .region 0 R14_0 false) (l := [0]) rfl ?_
  refine lj 4 R14_0_N rfl rfl rfl (opv_assign rfl rfl rfl) ?_
  refine aops_nil ?_
  refine ago_seqE (rfl : C14_2 = .seq C14_3 C14_4) ?_
  refine ago_regE (rfl : C14_3 = .region 1 R14_1 false) (l := [0, 1, 2, 3, 4]) rfl ?_
  refine lj 5 R14_1_N rfl rfl rfl (opv_move rfl rfl h0) ?_
  refine lj 6 R14_1_N rfl rfl rfl (opv_move rfl rfl h1) ?_
  obtain ⟨p1, aw2, hp3, ha4, H⟩ := H
  refine lj 7 R14_1_N rfl rfl rfl (ov_toB rfl rfl underlying9 underlying30 underlying5 rfl hp3 ha4) ?_
  refine lc 8 R14_1_N rfl rfl rfl (opc_of rfl rfl is31 (ma_cons rfl (ma_cons rfl rfl))) H (fun _ _ h => ⟨rfl, h⟩) fun r5 aw6 H => ?_
  refine lj 4 R14_1_N rfl rfl rfl (opv_assign rfl rfl rfl) ?_
  refine aops_nil ?_
  exact ago_retE (rfl : C14_4 = .ret) (r := r5) (ares_1 rfl (oneT rfl)) rfl H
theorem F14_ok {Q : Value → AW → Prop} {E : List PanicEntry → AW → Prop} (w_0 : Value) (s_1 : ByteArray) (aw : AW) (H : S14_0 Q E w_0 s_1 aw) : CallP prog 14 [w_0, .string s_1] aw sh14 Q E :=
  callP_of func14 C14_is rfl (Nat.le_of_ble_eq_true rfl) (S14_0_ok Q E _ w_0 s_1 aw rfl rfl H)
def C16_0 := bodyOf f16
theorem C16_is : f16.body = some C16_0 := by kernel_rfl
def C16_1 := cl C16_0
def R16_0 := regOps C16_1
def C16_2 := cr C16_0
def C16_3 := cl C16_2
def R16_1 := regOps C16_3
def C16_4 := cr C16_2
theorem R16_0_N : dstsOk 8 R16_0 = true := by decide +kernel
theorem R16_1_N : dstsOk 8 R16_1 = true := by decide +kernel
def S16_0 (Q : Value → AW → Prop) (E : List PanicEntry → AW → Prop)  (w_0 : Value) (aw : AW) : Prop :=
  nck w_0 (fldA w_0 0 fun p2 =>
  ldV aw p2 fun x10 =>
  CallP prog 32 [x10] aw sh32 (fun r12 aw13 =>
  Q r12 aw13) E)
theorem S16_0_ok (Q : Value → AW → Prop) (E : List PanicEntry → AW → Prop)  (ρ : Env) (w_0 : Value) (aw : AW) (h0 : ρ 0 = w_0) (H : S16_0 Q E  w_0 aw) :
    AGo prog 8 [.code C16_0] ρ [] aw (RR prog f16 8 sh16 Q E) := by
  unfold S16_0 at H
  refine ago_seqE (rfl : C16_0 = .seq C16_1 C16_2) ?_
  refine ago_regE (rfl : C16_1 = .region 0 R16_0 false) (l := [0]) rfl ?_
  refine lj 2 R16_0_N rfl rfl rfl (opv_assign rfl rfl rfl) ?_
  refine aops_nil ?_
  refine ago_seqE (rfl : C16_2 = .seq C16_3 C16_4) ?_
  refine ago_regE (rfl : C16_3 = .region 1 R16_1 false) (l := [0, 1, 2, 3, 4, 5]) rfl ?_
  refine lj 3 R16_1_N rfl rfl rfl (opv_move rfl rfl h0) ?_
  obtain ⟨hp1, H⟩ := H
  refine lj 4 R16_1_N rfl rfl rfl (ov_nck rfl rfl rfl hp1) ?_
  obtain ⟨b3, i4, p2, hp5, hv6, H⟩ := H
  refine lj 5 R16_1_N rfl rfl rfl (ov_fldA rfl rfl underlying47 rfl sz30 (by decide) rfl hp5 rfl hv6) ?_
  obtain ⟨b7, i8, x10, hp9, hg11, H⟩ := H
  refine lj 6 R16_1_N rfl rfl rfl (ov_ldV rfl underlying30 rfl rfl rfl hp9 hg11) ?_
  refine lc 7 R16_1_N rfl rfl rfl (opc_of rfl rfl is32 (ma_cons rfl rfl)) H (fun _ _ h => ⟨rfl, h⟩) fun r12 aw13 H => ?_
  refine lj 2 R16_1_N rfl rfl rfl (opv_assign rfl rfl rfl) ?_
  refine aops_nil ?_
  exact ago_retE (rfl : C16_4 = .ret) (r := r12) (ares_1 rfl (oneT rfl)) rfl H
theorem F16_ok {Q : Value → AW → Prop} {E : List PanicEntry → AW → Prop} (w_0 : Value) (aw : AW) (H : S16_0 Q E w_0 aw) : CallP prog 16 [w_0] aw sh16 Q E :=
  callP_of func16 C16_is rfl (Nat.le_of_ble_eq_true rfl) (S16_0_ok Q E _ w_0 aw rfl H)
def C25_0 := bodyOf f25
theorem C25_is : f25.body = some C25_0 := by kernel_rfl
def C25_1 := cl C25_0
def R25_0 := regOps C25_1
def C25_2 := cr C25_0
def C25_3 := cl C25_2
def R25_1 := regOps C25_3
def C25_4 := cr C25_2
def C25_5 := cl C25_4
def C25_6 := cl C25_5
def C25_7 := cl C25_6
def C25_8 := cl C25_7
def C25_9 := cl C25_8
def R25_2 := regOps C25_9
def C25_10 := cr C25_8
def C25_11 := cl C25_10
def C25_12 := cr C25_10
def C25_13 := cr C25_7
def C25_14 := cl C25_13
def C25_15 := cl C25_14
def R25_3 := regOps C25_15
def C25_16 := cr C25_14
def R25_4 := regOps C25_16
def C25_17 := cr C25_4
def C25_18 := cl C25_17
def R25_5 := regOps C25_18
def C25_19 := cr C25_17
def C25_20 := cl C25_19
def C25_21 := cl C25_20
def R25_6 := regOps C25_21
def C25_22 := cr C25_20
def C25_23 := cl C25_22
def C25_24 := cl C25_23
def C25_25 := cl C25_24
def C25_26 := cl C25_25
def R25_7 := regOps C25_26
def C25_27 := cr C25_25
def C25_28 := cl C25_27
def C25_29 := cr C25_27
def C25_30 := cr C25_24
def C25_31 := cl C25_30
def C25_32 := cl C25_31
def R25_9 := regOps C25_32
def C25_33 := cr C25_30
def R25_8 := regOps C25_33
def C25_34 := cr C25_19
def C25_35 := cl C25_34
def R25_10 := regOps C25_35
def C25_36 := cr C25_34
theorem R25_0_N : dstsOk 35 R25_0 = true := by decide +kernel
theorem R25_1_N : dstsOk 35 R25_1 = true := by decide +kernel
theorem R25_2_N : dstsOk 35 R25_2 = true := by decide +kernel
theorem R25_3_N : dstsOk 35 R25_3 = true := by decide +kernel
theorem R25_4_N : dstsOk 35 R25_4 = true := by decide +kernel
theorem R25_5_N : dstsOk 35 R25_5 = true := by decide +kernel
theorem R25_6_N : dstsOk 35 R25_6 = true := by decide +kernel
theorem R25_7_N : dstsOk 35 R25_7 = true := by decide +kernel
theorem R25_9_N : dstsOk 35 R25_9 = true := by decide +kernel
theorem R25_8_N : dstsOk 35 R25_8 = true := by decide +kernel
theorem R25_10_N : dstsOk 35 R25_10 = true := by decide +kernel
def S25_2s (Q : Value → AW → Prop) (E : List PanicEntry → AW → Prop)  (nx2 : Value → Value → Int → AW → Prop) (low_3 : Value) (p_4 : Value) (i_5 : Int) (aw : AW) : Prop :=
  cnd (decide (0 ≤ i_5)) (ixS low_3 i_5 1 fun p2 =>
  ldI .u8 aw p2 fun x14 =>
  alcS aw [.int .u8 x14] 5 1 1 fun p16 aw17 =>
  app aw17 5 1 1 p_4 p16 fun v20 aw21 =>
  nx2 low_3 v20 (IntKind.i64.wrap (i_5 - 1)) aw21) (Q p_4 aw)
def S25_2 (Q : Value → AW → Prop) (E : List PanicEntry → AW → Prop)  : Nat → Value → Value → Int → AW → Prop
  | 0 => fun _ _ _ _ => False
  | n + 1 => S25_2s Q E  (S25_2 Q E  n)
def S25_1s (Q : Value → AW → Prop) (E : List PanicEntry → AW → Prop)  (nx1 : Int → Value → AW → Prop) (n_0 : Int) (low_3 : Value) (aw : AW) : Prop :=
  cnd (decide (0 < n_0)) (alcS aw [.int .u8 (IntKind.u8.wrap (Int.tmod n_0 256))] 5 1 1 fun p24 aw25 =>
  app aw25 5 1 1 low_3 p24 fun v28 aw29 =>
  nx1 (IntKind.u64.wrap (Int.tdiv n_0 256)) v28 aw29) (slen low_3 fun n31 =>
  alcS aw [.int .u8 (IntKind.u8.wrap n31)] 5 1 1 fun p37 aw38 =>
  slen low_3 fun n41 =>
  ∃ n, S25_2 Q E  n low_3 p37 (IntKind.i64.wrap (n41 - 1)) aw38)
def S25_1 (Q : Value → AW → Prop) (E : List PanicEntry → AW → Prop)  : Nat → Int → Value → AW → Prop
  | 0 => fun _ _ _ => False
  | n + 1 => S25_1s Q E  (S25_1 Q E  n)
def S25_0 (Q : Value → AW → Prop) (E : List PanicEntry → AW → Prop)  (n_0 : Int) (aw : AW) : Prop :=
  ∃ n, S25_1 Q E  n n_0 (.slice none 0 0) aw
theorem S25_2s_ok (Q : Value → AW → Prop) (E : List PanicEntry → AW → Prop)  (nx2 : Value → Value → Int → AW → Prop) (L2 : ∀ (ρ : Env) (low_3 : Value) (p_4 : Value) (i_5 : Int) (aw : AW) (h3 : ρ 3 = low_3) (h4 : ρ 4 = p_4) (h5 : ρ 5 = .int .i64 i_5), nx2 low_3 p_4 i_5 aw → AGo prog 35 [.code C25_24, .inLoop C25_24, .inBlock 2, .code C25_34] ρ [] aw (RR prog f25 35 sh25 Q E)) (ρ : Env) (low_3 : Value) (p_4 : Value) (i_5 : Int) (aw : AW) (h3 : ρ 3 = low_3) (h4 : ρ 4 = p_4) (h5 : ρ 5 = .int .i64 i_5) (H : S25_2s Q E  nx2 low_3 p_4 i_5 aw) :
    AGo prog 35 [.code C25_24, .inLoop C25_24, .inBlock 2, .code C25_34] ρ [] aw (RR prog f25 35 sh25 Q E) := by
  unfold S25_2s at H
  refine ago_seqE (rfl : C25_24 = .seq C25_25 C25_30) ?_
  refine ago_seqE (rfl : C25_25 = .seq C25_26 C25_27) ?_
  refine ago_regE (rfl : C25_26 = .region 7 R25_7 false) (l := [0, 1]) rfl ?_
  refine lj 23 R25_7_N rfl rfl rfl (opv_move rfl rfl h5) ?_
  refine lj 24 R25_7_N rfl rfl rfl (opv_ge rfl rfl rfl rfl rfl) ?_
  refine aops_nil ?_
  refine ago_condE  (rfl : C25_27 = .cond (.tmp 24) C25_28 C25_29) rfl rfl (fun hb1 => ?_) (fun hb1 => ?_)
  · replace H := cnd_t H hb1
    refine ago_skipE (rfl : C25_28 = .skip) ?_
    refine ago_seqE (rfl : C25_30 = .seq C25_31 C25_33) ?_
    refine ago_blockE (rfl : C25_31 = .block 3 C25_32) ?_
    refine ago_regE (rfl : C25_32 = .region 9 R25_9 false) (l := [0, 1, 2, 3, 4, 5, 6, 7]) rfl ?_
    refine lj 27 R25_9_N rfl rfl rfl (opv_move rfl rfl h4) ?_
    refine lj 28 R25_9_N rfl rfl rfl (opv_move rfl rfl h3) ?_
    refine lj 29 R25_9_N rfl rfl rfl (opv_move rfl rfl h5) ?_
    obtain ⟨b3, i4, l5, c6, p2, hp7, h08, hj9, hv10, H⟩ := H
    refine lj 30 R25_9_N rfl rfl rfl (ov_ixS rfl rfl rfl underlying30 sz5 rfl rfl hp7 h08 hj9 hv10) ?_
    obtain ⟨b11, i12, x14, hp13, hg15, H⟩ := H
    refine lj 31 R25_9_N rfl rfl rfl (ov_ldI rfl underlying5 rfl rfl hp13 hg15) ?_
    obtain ⟨p16, aw17, hp18, ha19, H⟩ := H
    refine lj 32 R25_9_N rfl rfl rfl (ov_bsA (r := [.int .u8 x14]) (vs := [.int .u8 x14]) rfl rfl underlying30 sz5 z5 rfl rfl rfl rfl rfl (mp_cons rfl rfl) (.one rfl .nil) hp18 ha19) ?_
    obtain ⟨v20, aw21, hq22, H⟩ := H
    refine lj 33 R25_9_N rfl rfl rfl (ov_app rfl rfl rfl rfl underlying30 sz5 by5 underlying30 rfl z5 rfl (by decide) (by decide) rfl rfl hq22) ?_
    refine lj 4 R25_9_N rfl rfl rfl (opv_assign rfl rfl rfl) ?_
    refine aops_nil ?_
    refine ago_inBlock ?_
    refine ago_regE (rfl : C25_33 = .region 8 R25_8 false) (l := [0, 1, 2]) rfl ?_
    refine lj 25 R25_8_N rfl rfl rfl (opv_move rfl rfl h5) ?_
    refine lj 26 R25_8_N rfl rfl rfl (opv_sub rfl rfl rfl rfl rfl) ?_
    refine lj 5 R25_8_N rfl rfl rfl (opv_assign rfl rfl rfl) ?_
    refine aops_nil ?_
    refine ago_inLoop ?_
    exact L2 _ low_3 v20 (IntKind.i64.wrap (i_5 - 1)) aw21 h3 rfl rfl H
  replace H := cnd_f H hb1
  refine ago_exitE (rfl : C25_29 = .exit 2) rfl ?_
  refine ago_seqE (rfl : C25_34 = .seq C25_35 C25_36) ?_
  refine ago_regE (rfl : C25_35 = .region 10 R25_10 false) (l := [0, 1]) rfl ?_
  refine lj 34 R25_10_N rfl rfl rfl (opv_move rfl rfl h4) ?_
  refine lj 2 R25_10_N rfl rfl rfl (opv_assign rfl rfl rfl) ?_
  refine aops_nil ?_
  exact ago_retE (rfl : C25_36 = .ret) (r := p_4) (ares_1 rfl (oneT rfl)) rfl H
theorem S25_2_ok (Q : Value → AW → Prop) (E : List PanicEntry → AW → Prop)  : ∀ (n : Nat) (ρ : Env) (low_3 : Value) (p_4 : Value) (i_5 : Int) (aw : AW) (h3 : ρ 3 = low_3) (h4 : ρ 4 = p_4) (h5 : ρ 5 = .int .i64 i_5), S25_2 Q E  n low_3 p_4 i_5 aw →
    AGo prog 35 [.code C25_24, .inLoop C25_24, .inBlock 2, .code C25_34] ρ [] aw (RR prog f25 35 sh25 Q E)
  | 0, _, _, _, _, _, _, _, _ => fun H => H.elim
  | n + 1, ρ, low_3, p_4, i_5, aw, h3, h4, h5 => fun H => S25_2s_ok Q E  _ (S25_2_ok Q E  n) ρ low_3 p_4 i_5 aw h3 h4 h5 H
theorem S25_1s_ok (Q : Value → AW → Prop) (E : List PanicEntry → AW → Prop)  (nx1 : Int → Value → AW → Prop) (L1 : ∀ (ρ : Env) (n_0 : Int) (low_3 : Value) (aw : AW) (h0 : ρ 0 = .int .u64 n_0) (h3 : ρ 3 = low_3), nx1 n_0 low_3 aw → AGo prog 35 [.code C25_7, .inLoop C25_7, .inBlock 0, .code C25_17] ρ [] aw (RR prog f25 35 sh25 Q E)) (ρ : Env) (n_0 : Int) (low_3 : Value) (aw : AW) (h0 : ρ 0 = .int .u64 n_0) (h3 : ρ 3 = low_3) (H : S25_1s Q E  nx1 n_0 low_3 aw) :
    AGo prog 35 [.code C25_7, .inLoop C25_7, .inBlock 0, .code C25_17] ρ [] aw (RR prog f25 35 sh25 Q E) := by
  unfold S25_1s at H
  refine ago_seqE (rfl : C25_7 = .seq C25_8 C25_13) ?_
  refine ago_seqE (rfl : C25_8 = .seq C25_9 C25_10) ?_
  refine ago_regE (rfl : C25_9 = .region 2 R25_2 false) (l := [0, 1]) rfl ?_
  refine lj 6 R25_2_N rfl rfl rfl (opv_move rfl rfl h0) ?_
  refine lj 7 R25_2_N rfl rfl rfl (opv_gt rfl rfl rfl rfl rfl) ?_
  refine aops_nil ?_
  refine ago_condE  (rfl : C25_10 = .cond (.tmp 7) C25_11 C25_12) rfl rfl (fun hb23 => ?_) (fun hb23 => ?_)
  · replace H := cnd_t H hb23
    refine ago_skipE (rfl : C25_11 = .skip) ?_
    refine ago_blockE (rfl : C25_13 = .block 1 C25_14) ?_
    refine ago_seqE (rfl : C25_14 = .seq C25_15 C25_16) ?_
    refine ago_regE (rfl : C25_15 = .region 3 R25_3 false) (l := [0, 1, 2, 3, 4, 5, 6]) rfl ?_
    refine lj 8 R25_3_N rfl rfl rfl (opv_move rfl rfl h3) ?_
    refine lj 9 R25_3_N rfl rfl rfl (opv_move rfl rfl h0) ?_
    refine lj 10 R25_3_N rfl rfl rfl (opv_rem rfl rfl rfl rfl rfl (by decide)) ?_
    refine lj 11 R25_3_N rfl rfl rfl (opv_conv rfl rfl underlying39 underlying5 rfl) ?_
    obtain ⟨p24, aw25, hp26, ha27, H⟩ := H
    refine lj 12 R25_3_N rfl rfl rfl (ov_bsA (r := [.int .u8 (IntKind.u8.wrap (Int.tmod n_0 256))]) (vs := [.int .u8 (IntKind.u8.wrap (Int.tmod n_0 256))]) rfl rfl underlying30 sz5 z5 rfl rfl rfl rfl rfl (mp_cons rfl rfl) (.one rfl .nil) hp26 ha27) ?_
    obtain ⟨v28, aw29, hq30, H⟩ := H
    refine lj 13 R25_3_N rfl rfl rfl (ov_app rfl rfl rfl rfl underlying30 sz5 by5 underlying30 rfl z5 rfl (by decide) (by decide) rfl rfl hq30) ?_
    refine lj 3 R25_3_N rfl rfl rfl (opv_assign rfl rfl rfl) ?_
    refine aops_nil ?_
    refine ago_regE (rfl : C25_16 = .region 4 R25_4 false) (l := [0, 1, 2]) rfl ?_
    refine lj 14 R25_4_N rfl rfl rfl (opv_move rfl rfl h0) ?_
    refine lj 15 R25_4_N rfl rfl rfl (opv_quo rfl rfl rfl rfl rfl (by decide)) ?_
    refine lj 0 R25_4_N rfl rfl rfl (opv_assign rfl rfl rfl) ?_
    refine aops_nil ?_
    refine ago_inBlock ?_
    refine ago_inLoop ?_
    exact L1 _ (IntKind.u64.wrap (Int.tdiv n_0 256)) v28 aw29 rfl rfl H
  replace H := cnd_f H hb23
  refine ago_exitE (rfl : C25_12 = .exit 0) rfl ?_
  refine ago_seqE (rfl : C25_17 = .seq C25_18 C25_19) ?_
  refine ago_regE (rfl : C25_18 = .region 5 R25_5 false) (l := [0, 1, 2, 3, 4]) rfl ?_
  refine lj 16 R25_5_N rfl rfl rfl (opv_move rfl rfl h3) ?_
  obtain ⟨q32, l33, c34, n31, hv35, hn36, H⟩ := H
  refine lj 17 R25_5_N rfl rfl rfl (ov_len rfl rfl rfl underlying30 rfl hv35 hn36) ?_
  refine lj 18 R25_5_N rfl rfl rfl (opv_conv rfl rfl underlying3 underlying5 rfl) ?_
  obtain ⟨p37, aw38, hp39, ha40, H⟩ := H
  refine lj 19 R25_5_N rfl rfl rfl (ov_bsA (r := [.int .u8 (IntKind.u8.wrap n31)]) (vs := [.int .u8 (IntKind.u8.wrap n31)]) rfl rfl underlying30 sz5 z5 rfl rfl rfl rfl rfl (mp_cons rfl rfl) (.one rfl .nil) hp39 ha40) ?_
  refine lj 4 R25_5_N rfl rfl rfl (opv_assign rfl rfl rfl) ?_
  refine aops_nil ?_
  refine ago_seqE (rfl : C25_19 = .seq C25_20 C25_34) ?_
  refine ago_seqE (rfl : C25_20 = .seq C25_21 C25_22) ?_
  refine ago_regE (rfl : C25_21 = .region 6 R25_6 false) (l := [0, 1, 2, 3]) rfl ?_
  refine lj 20 R25_6_N rfl rfl rfl (opv_move rfl rfl h3) ?_
  obtain ⟨q42, l43, c44, n41, hv45, hn46, H⟩ := H
  refine lj 21 R25_6_N rfl rfl rfl (ov_len rfl rfl rfl underlying30 rfl hv45 hn46) ?_
  refine lj 22 R25_6_N rfl rfl rfl (opv_sub rfl rfl rfl rfl rfl) ?_
  refine lj 5 R25_6_N rfl rfl rfl (opv_assign rfl rfl rfl) ?_
  refine aops_nil ?_
  refine ago_blockE (rfl : C25_22 = .block 2 C25_23) ?_
  refine ago_loopE (rfl : C25_23 = .loop C25_24) ?_
  obtain ⟨n, H⟩ := H
  exact S25_2_ok Q E  n _ low_3 p37 (IntKind.i64.wrap (n41 - 1)) aw38 h3 rfl rfl H
theorem S25_1_ok (Q : Value → AW → Prop) (E : List PanicEntry → AW → Prop)  : ∀ (n : Nat) (ρ : Env) (n_0 : Int) (low_3 : Value) (aw : AW) (h0 : ρ 0 = .int .u64 n_0) (h3 : ρ 3 = low_3), S25_1 Q E  n n_0 low_3 aw →
    AGo prog 35 [.code C25_7, .inLoop C25_7, .inBlock 0, .code C25_17] ρ [] aw (RR prog f25 35 sh25 Q E)
  | 0, _, _, _, _, _, _ => fun H => H.elim
  | n + 1, ρ, n_0, low_3, aw, h0, h3 => fun H => S25_1s_ok Q E  _ (S25_1_ok Q E  n) ρ n_0 low_3 aw h0 h3 H
theorem S25_0_ok (Q : Value → AW → Prop) (E : List PanicEntry → AW → Prop)  (ρ : Env) (n_0 : Int) (aw : AW) (h0 : ρ 0 = .int .u64 n_0) (H : S25_0 Q E  n_0 aw) :
    AGo prog 35 [.code C25_0] ρ [] aw (RR prog f25 35 sh25 Q E) := by
  unfold S25_0 at H
  refine ago_seqE (rfl : C25_0 = .seq C25_1 C25_2) ?_
  refine ago_regE (rfl : C25_1 = .region 0 R25_0 false) (l := [0]) rfl ?_
  refine lj 2 R25_0_N rfl rfl rfl (opv_assign rfl rfl rfl) ?_
  refine aops_nil ?_
  refine ago_seqE (rfl : C25_2 = .seq C25_3 C25_4) ?_
  refine ago_regE (rfl : C25_3 = .region 1 R25_1 false) (l := [0]) rfl ?_
  refine lj 3 R25_1_N rfl rfl rfl (opv_assign rfl rfl rfl) ?_
  refine aops_nil ?_
  refine ago_seqE (rfl : C25_4 = .seq C25_5 C25_17) ?_
  refine ago_blockE (rfl : C25_5 = .block 0 C25_6) ?_
  refine ago_loopE (rfl : C25_6 = .loop C25_7) ?_
  obtain ⟨n, H⟩ := H
  exact S25_1_ok Q E  n _ n_0 (.slice none 0 0) aw h0 rfl H
theorem F25_ok {Q : Value → AW → Prop} {E : List PanicEntry → AW → Prop} (n_0 : Int) (aw : AW) (H : S25_0 Q E n_0 aw) : CallP prog 25 [.int .u64 n_0] aw sh25 Q E :=
  callP_of func25 C25_is rfl (Nat.le_of_ble_eq_true rfl) (S25_0_ok Q E _ n_0 aw rfl H)
def C23_0 := bodyOf f23
theorem C23_is : f23.body = some C23_0 := by kernel_rfl
def C23_1 := cl C23_0
def R23_0 := regOps C23_1
def C23_2 := cr C23_0
def C23_3 := cl C23_2
def C23_4 := cl C23_3
def R23_1 := regOps C23_4
def C23_5 := cr C23_3
def C23_6 := cl C23_5
def C23_7 := cl C23_6
def R23_2 := regOps C23_7
def C23_8 := cr C23_6
def C23_9 := cr C23_5
def C23_10 := cr C23_2
def C23_11 := cl C23_10
def R23_3 := regOps C23_11
def C23_12 := cr C23_10
theorem R23_0_N : dstsOk 16 R23_0 = true := by decide +kernel
theorem R23_1_N : dstsOk 16 R23_1 = true := by decide +kernel
theorem R23_2_N : dstsOk 16 R23_2 = true := by decide +kernel
theorem R23_3_N : dstsOk 16 R23_3 = true := by decide +kernel
def S23_0 (Q : Value → AW → Prop) (E : List PanicEntry → AW → Prop)  (n_0 : Int) (aw : AW) : Prop :=
  cnd (decide (n_0 < 0)) (CallP prog 25 [.int .u64 (IntKind.u64.wrap ((IntKind.u64.wrap ((IntKind.u64.wrap (IntKind.i64.wrap (-(IntKind.i64.wrap (n_0 + 1))))) * 2)) + 1))] aw sh25 (fun r2 aw3 =>
  Q r2 aw3) E) (CallP prog 25 [.int .u64 (IntKind.u64.wrap ((IntKind.u64.wrap n_0) * 2))] aw sh25 (fun r4 aw5 =>
  Q r4 aw5) E)
theorem S23_0_ok (Q : Value → AW → Prop) (E : List PanicEntry → AW → Prop)  (ρ : Env) (n_0 : Int) (aw : AW) (h0 : ρ 0 = .int .i64 n_0) (H : S23_0 Q E  n_0 aw) :
    AGo prog 16 [.code C23_0] ρ [] aw (RR prog f23 16 sh23 Q E) := by
  unfold S23_0 at H
  refine ago_seqE (rfl : C23_0 = .seq C23_1 C23_2) ?_
  refine ago_regE (rfl : C23_1 = .region 0 R23_0 false) (l := [0]) rfl ?_
  refine lj 2 R23_0_N rfl rfl rfl (opv_assign rfl rfl rfl) ?_
  refine aops_nil ?_
  refine ago_seqE (rfl : C23_2 = .seq C23_3 C23_10) ?_
  refine ago_seqE (rfl : C23_3 = .seq C23_4 C23_5) ?_
  refine ago_regE (rfl : C23_4 = .region 1 R23_1 false) (l := [0, 1]) rfl ?_
  refine lj 3 R23_1_N rfl rfl rfl (opv_move rfl rfl h0) ?_
  refine lj 4 R23_1_N rfl rfl rfl (opv_lt rfl rfl rfl rfl rfl) ?_
  refine aops_nil ?_
  refine ago_condE  (rfl : C23_5 = .cond (.tmp 4) C23_6 C23_9) rfl rfl (fun hb1 => ?_) (fun hb1 => ?_)
  · replace H := cnd_t H hb1
    refine ago_seqE (rfl : C23_6 = .seq C23_7 C23_8) ?_
    refine ago_regE (rfl : C23_7 = .region 2 R23_2 false) (l := [0, 1, 2, 3, 4, 5, 6, 7]) rfl ?_
    refine lj 5 R23_2_N rfl rfl rfl (opv_move rfl rfl h0) ?_
    refine lj 6 R23_2_N rfl rfl rfl (opv_add rfl rfl rfl rfl rfl) ?_
    refine lj 7 R23_2_N rfl rfl rfl (opv_neg rfl rfl rfl) ?_
    refine lj 8 R23_2_N rfl rfl rfl (opv_conv rfl rfl underlying2 underlying39 rfl) ?_
    refine lj 9 R23_2_N rfl rfl rfl (opv_mul rfl rfl rfl rfl rfl) ?_
    refine lj 10 R23_2_N rfl rfl rfl (opv_add rfl rfl rfl rfl rfl) ?_
    refine lc 11 R23_2_N rfl rfl rfl (opc_of rfl rfl is25 (ma_cons rfl rfl)) H (fun _ _ h => ⟨rfl, h⟩) fun r2 aw3 H => ?_
    refine lj 2 R23_2_N rfl rfl rfl (opv_assign rfl rfl rfl) ?_
    refine aops_nil ?_
    exact ago_retE (rfl : C23_8 = .ret) (r := r2) (ares_1 rfl (oneT rfl)) rfl H
  replace H := cnd_f H hb1
  refine ago_skipE (rfl : C23_9 = .skip) ?_
  refine ago_seqE (rfl : C23_10 = .seq C23_11 C23_12) ?_
  refine ago_regE (rfl : C23_11 = .region 3 R23_3 false) (l := [0, 1, 2, 3, 4]) rfl ?_
  refine lj 12 R23_3_N rfl rfl rfl (opv_move rfl rfl h0) ?_
  refine lj 13 R23_3_N rfl rfl rfl (opv_conv rfl rfl underlying2 underlying39 rfl) ?_
  refine lj 14 R23_3_N rfl rfl rfl (opv_mul rfl rfl rfl rfl rfl) ?_
  refine lc 15 R23_3_N rfl rfl rfl (opc_of rfl rfl is25 (ma_cons rfl rfl)) H (fun _ _ h => ⟨rfl, h⟩) fun r4 aw5 H => ?_
  refine lj 2 R23_3_N rfl rfl rfl (opv_assign rfl rfl rfl) ?_
  refine aops_nil ?_
  exact ago_retE (rfl : C23_12 = .ret) (r := r4) (ares_1 rfl (oneT rfl)) rfl H
theorem F23_ok {Q : Value → AW → Prop} {E : List PanicEntry → AW → Prop} (n_0 : Int) (aw : AW) (H : S23_0 Q E n_0 aw) : CallP prog 23 [.int .i64 n_0] aw sh23 Q E :=
  callP_of func23 C23_is rfl (Nat.le_of_ble_eq_true rfl) (S23_0_ok Q E _ n_0 aw rfl H)
def C24_0 := bodyOf f24
theorem C24_is : f24.body = some C24_0 := by kernel_rfl
def C24_1 := cl C24_0
def R24_0 := regOps C24_1
def C24_2 := cr C24_0
def C24_3 := cl C24_2
def R24_1 := regOps C24_3
def C24_4 := cr C24_2
def C24_5 := cl C24_4
def R24_2 := regOps C24_5
def C24_6 := cr C24_4
theorem R24_0_N : dstsOk 11 R24_0 = true := by decide +kernel
theorem R24_1_N : dstsOk 11 R24_1 = true := by decide +kernel
theorem R24_2_N : dstsOk 11 R24_2 = true := by decide +kernel
def S24_0 (Q : Value → AW → Prop) (E : List PanicEntry → AW → Prop)  (b_0 : Value) (aw : AW) : Prop :=
  slen b_0 fun n1 =>
  CallP prog 25 [.int .u64 (IntKind.u64.wrap n1)] aw sh25 (fun r7 aw8 =>
  app aw8 5 1 1 r7 b_0 fun v9 aw10 =>
  Q v9 aw10) E
theorem S24_0_ok (Q : Value → AW → Prop) (E : List PanicEntry → AW → Prop)  (ρ : Env) (b_0 : Value) (aw : AW) (h0 : ρ 0 = b_0) (H : S24_0 Q E  b_0 aw) :
    AGo prog 11 [.code C24_0] ρ [] aw (RR prog f24 11 sh24 Q E) := by
  unfold S24_0 at H
  refine ago_seqE (rfl : C24_0 = .seq C24_1 C24_2) ?_
  refine ago_regE (rfl : C24_1 = .region 0 R24_0 false) (l := [0]) rfl ?_
  refine lj 2 R24_0_N rfl rfl rfl (opv_assign rfl rfl rfl) ?_
  refine aops_nil ?_
  refine ago_seqE (rfl : C24_2 = .seq C24_3 C24_4) ?_
  refine ago_regE (rfl : C24_3 = .region 1 R24_1 false) (l := [0, 1, 2, 3, 4]) rfl ?_
  refine lj 4 R24_1_N rfl rfl rfl (opv_move rfl rfl h0) ?_
  obtain ⟨q2, l3, c4, n1, hv5, hn6, H⟩ := H
  refine lj 5 R24_1_N rfl rfl rfl (ov_len rfl rfl rfl underlying30 rfl hv5 hn6) ?_
  refine lj 6 R24_1_N rfl rfl rfl (opv_conv rfl rfl underlying3 underlying39 rfl) ?_
  refine lc 7 R24_1_N rfl rfl rfl (opc_of rfl rfl is25 (ma_cons rfl rfl)) H (fun _ _ h => ⟨rfl, h⟩) fun r7 aw8 H => ?_
  refine lj 3 R24_1_N rfl rfl rfl (opv_assign rfl rfl rfl) ?_
  refine aops_nil ?_
  refine ago_seqE (rfl : C24_4 = .seq C24_5 C24_6) ?_
  refine ago_regE (rfl : C24_5 = .region 2 R24_2 false) (l := [0, 1, 2, 3]) rfl ?_
  refine lj 8 R24_2_N rfl rfl rfl (opv_move rfl rfl rfl) ?_
  refine lj 9 R24_2_N rfl rfl rfl (opv_move rfl rfl h0) ?_
  obtain ⟨v9, aw10, hq11, H⟩ := H
  refine lj 10 R24_2_N rfl rfl rfl (ov_app rfl rfl rfl rfl underlying30 sz5 by5 underlying30 rfl z5 rfl (by decide) (by decide) rfl rfl hq11) ?_
  refine lj 2 R24_2_N rfl rfl rfl (opv_assign rfl rfl rfl) ?_
  refine aops_nil ?_
  exact ago_retE (rfl : C24_6 = .ret) (r := v9) (ares_1 rfl (oneT rfl)) rfl H
theorem F24_ok {Q : Value → AW → Prop} {E : List PanicEntry → AW → Prop} (b_0 : Value) (aw : AW) (H : S24_0 Q E b_0 aw) : CallP prog 24 [b_0] aw sh24 Q E :=
  callP_of func24 C24_is rfl (Nat.le_of_ble_eq_true rfl) (S24_0_ok Q E _ b_0 aw rfl H)
end
end Go.Proofs.Tryz
