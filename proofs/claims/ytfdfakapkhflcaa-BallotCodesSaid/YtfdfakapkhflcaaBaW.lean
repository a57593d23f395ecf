/- Printed by a program of the prover: what the Go functions of this seat do, in steps. -/
import Derived.Test.YtfdfakapkhflcaaBaF
import Derived.Test.YtfdfakapkhflcaaBaA
import Derived.Test.YtfdfakapkhflcaaBaB
set_option linter.unusedSectionVars false
set_option linter.unusedSimpArgs false
set_option linter.unusedVariables false
namespace Go.Proofs.Try
open Go Go.Am Go.RowKit
set_option maxHeartbeats 4000000
set_option maxRecDepth 100000
noncomputable section
variable [SymE]
def C46_0 : Code := bodyOf f46
theorem C46_is : f46.body = some C46_0 := by kernel_rfl
def C46_1 : Code := cl C46_0
def R46_0 : Array Oper := regOps C46_1
def C46_2 : Code := cr C46_0
def C46_3 : Code := cl C46_2
def R46_1 : Array Oper := regOps C46_3
def C46_4 : Code := cr C46_2
def C46_5 : Code := cl C46_4
def C46_6 : Code := cl C46_5
def C46_7 : Code := cl C46_6
def C46_8 : Code := cl C46_7
def C46_9 : Code := cl C46_8
def R46_2 : Array Oper := regOps C46_9
def C46_10 : Code := cr C46_8
def C46_11 : Code := cl C46_10
def C46_12 : Code := cr C46_10
def C46_13 : Code := cr C46_7
def C46_14 : Code := cl C46_13
def R46_3 : Array Oper := regOps C46_14
def C46_15 : Code := cr C46_4
def C46_16 : Code := cl C46_15
def R46_4 : Array Oper := regOps C46_16
def C46_17 : Code := cr C46_15
def C46_18 : Code := cl C46_17
def C46_19 : Code := cl C46_18
def R46_5 : Array Oper := regOps C46_19
def C46_20 : Code := cr C46_18
def C46_21 : Code := cl C46_20
def C46_22 : Code := cl C46_21
def C46_23 : Code := cl C46_22
def C46_24 : Code := cl C46_23
def R46_6 : Array Oper := regOps C46_24
def C46_25 : Code := cr C46_23
def C46_26 : Code := cl C46_25
def C46_27 : Code := cr C46_25
def C46_28 : Code := cr C46_22
def C46_29 : Code := cl C46_28
def C46_30 : Code := cl C46_29
def R46_8 : Array Oper := regOps C46_30
def C46_31 : Code := cr C46_28
def R46_7 : Array Oper := regOps C46_31
def C46_32 : Code := cr C46_17
def C46_33 : Code := cl C46_32
def R46_9 : Array Oper := regOps C46_33
def C46_34 : Code := cr C46_32
theorem R46_0_N : dstsOk 49 R46_0 = true := by decide +kernel
theorem E46_1 : C46_1 = .region 0 R46_0 false := rfl
theorem R46_1_N : dstsOk 49 R46_1 = true := by decide +kernel
theorem E46_3 : C46_3 = .region 1 R46_1 false := rfl
theorem R46_2_N : dstsOk 49 R46_2 = true := by decide +kernel
theorem E46_9 : C46_9 = .region 2 R46_2 false := rfl
theorem E46_11 : C46_11 = .skip := rfl
theorem E46_12 : C46_12 = .exit 0 := rfl
theorem E46_10 : C46_10 = .cond (.tmp 14) C46_11 C46_12 := rfl
theorem E46_8 : C46_8 = .seq C46_9 C46_10 := rfl
theorem R46_3_N : dstsOk 49 R46_3 = true := by decide +kernel
theorem E46_14 : C46_14 = .region 3 R46_3 false := rfl
theorem E46_13 : C46_13 = .block 1 C46_14 := rfl
theorem E46_7 : C46_7 = .seq C46_8 C46_13 := rfl
theorem E46_6 : C46_6 = .loop C46_7 := rfl
theorem E46_5 : C46_5 = .block 0 C46_6 := rfl
theorem R46_4_N : dstsOk 49 R46_4 = true := by decide +kernel
theorem E46_16 : C46_16 = .region 4 R46_4 false := rfl
theorem R46_5_N : dstsOk 49 R46_5 = true := by decide +kernel
theorem E46_19 : C46_19 = .region 5 R46_5 false := rfl
theorem R46_6_N : dstsOk 49 R46_6 = true := by decide +kernel
theorem E46_24 : C46_24 = .region 6 R46_6 false := rfl
theorem E46_26 : C46_26 = .skip := rfl
theorem E46_27 : C46_27 = .exit 2 := rfl
theorem E46_25 : C46_25 = .cond (.tmp 31) C46_26 C46_27 := rfl
theorem E46_23 : C46_23 = .seq C46_24 C46_25 := rfl
theorem R46_8_N : dstsOk 49 R46_8 = true := by decide +kernel
theorem R46_8_O : linOk R46_8 [0, 1, 2, 3, 4, 5, 6, 7, 8, 9] [(10, [0, 1, 2, 3, 4], []), (11, [0], [12, 13]), (14, [], [])] = true := by decide +kernel
theorem E46_30 : C46_30 = .region 8 R46_8 true := rfl
theorem E46_29 : C46_29 = .block 3 C46_30 := rfl
theorem R46_7_N : dstsOk 49 R46_7 = true := by decide +kernel
theorem E46_31 : C46_31 = .region 7 R46_7 false := rfl
theorem E46_28 : C46_28 = .seq C46_29 C46_31 := rfl
theorem E46_22 : C46_22 = .seq C46_23 C46_28 := rfl
theorem E46_21 : C46_21 = .loop C46_22 := rfl
theorem E46_20 : C46_20 = .block 2 C46_21 := rfl
theorem E46_18 : C46_18 = .seq C46_19 C46_20 := rfl
theorem R46_9_N : dstsOk 49 R46_9 = true := by decide +kernel
theorem E46_33 : C46_33 = .region 9 R46_9 false := rfl
theorem E46_34 : C46_34 = .ret := rfl
theorem E46_32 : C46_32 = .seq C46_33 C46_34 := rfl
theorem E46_17 : C46_17 = .seq C46_18 C46_32 := rfl
theorem E46_15 : C46_15 = .seq C46_16 C46_17 := rfl
theorem E46_4 : C46_4 = .seq C46_5 C46_15 := rfl
theorem E46_2 : C46_2 = .seq C46_3 C46_4 := rfl
theorem E46_0 : C46_0 = .seq C46_1 C46_2 := rfl
def S46_2s (Q : Value → AW → Prop) (E : List PanicEntry → AW → Prop)  (nx2 : Value → Int → Int → AW → Prop) (w_0 : Value) (n_1 : Int) (k_5 : Int) (aw : AW) : Prop :=
  cnd (decide (0 ≤ k_5)) (nck w_0 (fldA w_0 0 fun p3 =>
  ldV aw p3 fun x11 =>
  0 ≤ (IntKind.i64.wrap (8 * k_5)) ∧ alcS aw [.int .u8 (IntKind.u8.wrap (Int.fdiv n_1 (2 ^ (min (IntKind.i64.wrap (8 * k_5)).toNat IntKind.u64.bits))))] 5 1 1 fun p14 aw15 =>
  again1 aw15 p3 (x11) ∧ app aw15 5 1 1 x11 p14 fun v18 aw19 =>
  nck w_0 (fldA w_0 0 fun p22 =>
  st aw19 p22 [v18] fun aw27 =>
  nx2 w_0 n_1 (IntKind.i64.wrap (k_5 - 1)) aw27))) (Q w_0 aw)
def S46_2 (Q : Value → AW → Prop) (E : List PanicEntry → AW → Prop)  : Nat → Value → Int → Int → AW → Prop
  | 0 => fun _ _ _ _ => False
  | n + 1 => S46_2s Q E  (S46_2 Q E  n)
def S46_1s (Q : Value → AW → Prop) (E : List PanicEntry → AW → Prop)  (nx1 : Value → Int → Int → AW → Prop) (w_0 : Value) (n_1 : Int) (k_5 : Int) (aw : AW) : Prop :=
  0 ≤ (IntKind.i64.wrap (8 * k_5)) ∧ cnd (decide (0 < (Int.fdiv n_1 (2 ^ (min (IntKind.i64.wrap (8 * k_5)).toNat IntKind.u64.bits))))) (cnd (decide (k_5 < 8)) (nx1 w_0 n_1 (IntKind.i64.wrap (k_5 + 1)) aw) (nck w_0 (fldA w_0 0 fun p38 =>
  ldV aw p38 fun x46 =>
  alcS aw [.int .u8 (IntKind.u8.wrap k_5)] 5 1 1 fun p48 aw49 =>
  app aw49 5 1 1 x46 p48 fun v52 aw53 =>
  nck w_0 (fldA w_0 0 fun p56 =>
  st aw53 p56 [v52] fun aw61 =>
  ∃ n, S46_2 Q E  n w_0 n_1 (IntKind.i64.wrap (k_5 - 1)) aw61)))) (nck w_0 (fldA w_0 0 fun p70 =>
  ldV aw p70 fun x78 =>
  alcS aw [.int .u8 (IntKind.u8.wrap k_5)] 5 1 1 fun p80 aw81 =>
  app aw81 5 1 1 x78 p80 fun v84 aw85 =>
  nck w_0 (fldA w_0 0 fun p88 =>
  st aw85 p88 [v84] fun aw93 =>
  ∃ n, S46_2 Q E  n w_0 n_1 (IntKind.i64.wrap (k_5 - 1)) aw93)))
def S46_1 (Q : Value → AW → Prop) (E : List PanicEntry → AW → Prop)  : Nat → Value → Int → Int → AW → Prop
  | 0 => fun _ _ _ _ => False
  | n + 1 => S46_1s Q E  (S46_1 Q E  n)
def S46_0 (Q : Value → AW → Prop) (E : List PanicEntry → AW → Prop)  (w_0 : Value) (n_1 : Int) (aw : AW) : Prop :=
  ∃ n, S46_1 Q E  n w_0 n_1 0 aw
theorem S46_2s_ok (Q : Value → AW → Prop) (E : List PanicEntry → AW → Prop)  (nx2 : Value → Int → Int → AW → Prop) (L2 : ∀ (ρ : Env) (w_0 : Value) (n_1 : Int) (k_5 : Int) (aw : AW) (h0 : ρ 0 = w_0) (h1 : ρ 1 = .int .u64 n_1) (h5 : ρ 5 = .int .i64 k_5), nx2 w_0 n_1 k_5 aw → AGo prog 49 [.code C46_22, .inLoop C46_22, .inBlock 2, .code C46_32] ρ [] aw (RR prog f46 49 sh46 Q E)) (ρ : Env) (w_0 : Value) (n_1 : Int) (k_5 : Int) (aw : AW) (h0 : ρ 0 = w_0) (h1 : ρ 1 = .int .u64 n_1) (h5 : ρ 5 = .int .i64 k_5) (H : S46_2s Q E  nx2 w_0 n_1 k_5 aw) :
    AGo prog 49 [.code C46_22, .inLoop C46_22, .inBlock 2, .code C46_32] ρ [] aw (RR prog f46 49 sh46 Q E) := by
  unfold S46_2s at H
  refine ago_seqE E46_22 ?_
  refine ago_seqE E46_23 ?_
  refine ago_regE E46_24 (l := [0, 1]) rfl ?_
  refine lk (dt := some 30) R46_6_N rfl rfl rfl (opv_move rfl rfl h5) ?_
  refine lk (dt := some 31) R46_6_N rfl rfl rfl (opv_ge rfl rfl rfl rfl rfl) ?_
  refine aops_nil ?_
  refine ago_condE  E46_25 rfl rfl (fun hb1 => ?_) (fun hb1 => ?_)
  · replace H := cnd_t H hb1
    refine ago_skipE E46_26 ?_
    refine ago_seqE E46_28 ?_
    refine ago_blockE E46_29 ?_
    obtain ⟨hp2, H⟩ := H
    obtain ⟨b4, i5, p3, hp6, hv7, H⟩ := H
    obtain ⟨b8, i9, x11, hp10, hg12, H⟩ := H
    obtain ⟨hz13, H⟩ := H
    refine ago_drawH (p := [0, 1, 2, 3, 4, 5, 6, 7, 8, 9]) (tl := [(10, [0, 1, 2, 3, 4], []), (11, [0], [12, 13]), (14, [], [])]) (hv := [(0, w_0), (1, w_0), (2, w_0), (3, p3), (4, x11), (5, Value.int .u64 n_1), (6, Value.int .i64 k_5), (7, Value.int .i64 (IntKind.i64.wrap (8 * k_5))), (8, Value.int .u64 (Int.fdiv n_1 (2 ^ (min (IntKind.i64.wrap (8 * k_5)).toNat IntKind.u64.bits)))), (9, Value.int .u8 (IntKind.u8.wrap (Int.fdiv n_1 (2 ^ (min (IntKind.i64.wrap (8 * k_5)).toNat IntKind.u64.bits)))))]) E46_30 mixed R46_8_N R46_8_O rfl (pv_cons rfl (pv_cons rfl (pv_cons rfl (pv_cons rfl (pv_cons rfl (pv_cons rfl (pv_cons rfl (pv_cons rfl (pv_cons rfl (pv_cons rfl (pv_nil _)))))))))))
      (ffc (d := 34) (v := w_0) (hd_v rfl fun ρ hρ => ⟨rfl, opv_move rfl rfl ((hρ 0 (lmem rfl)).trans h0)⟩) rfl rfl
      (ffc (d := 35) (v := w_0) (hd_v rfl fun ρ hρ => ⟨rfl, opv_move rfl rfl ((hρ 0 (lmem rfl)).trans h0)⟩) rfl rfl
      (ffc (d := 36) (v := w_0) (hd_v rfl fun ρ hρ => ⟨rfl, ov_nck rfl rfl ((hρ 35 (lmem rfl)).trans rfl) hp2⟩) rfl rfl
      (ffc (d := 37) (v := p3) (hd_v rfl fun ρ hρ => ⟨rfl, ov_fldA rfl rfl underlying98 rfl sz25 (by decide) ((hρ 36 (lmem rfl)).trans rfl) hp6 rfl hv7⟩) rfl rfl
      (ffc (d := 38) (v := x11) (hd_v rfl fun ρ hρ => ⟨rfl, ov_ldV rfl underlying25 rfl rfl ((hρ 37 (lmem rfl)).trans rfl) hp10 hg12⟩) rfl rfl
      (ffc (d := 39) (v := .int .u64 n_1) (hd_v rfl fun ρ hρ => ⟨rfl, opv_move rfl rfl ((hρ 1 (lmem rfl)).trans h1)⟩) rfl rfl
      (ffc (d := 40) (v := .int .i64 k_5) (hd_v rfl fun ρ hρ => ⟨rfl, opv_move rfl rfl ((hρ 5 (lmem rfl)).trans h5)⟩) rfl rfl
      (ffc (d := 41) (v := .int .i64 (IntKind.i64.wrap (8 * k_5))) (hd_v rfl fun ρ hρ => ⟨rfl, opv_mul rfl rfl rfl rfl ((hρ 40 (lmem rfl)).trans rfl)⟩) rfl rfl
      (ffc (d := 42) (v := .int .u64 (Int.fdiv n_1 (2 ^ (min (IntKind.i64.wrap (8 * k_5)).toNat IntKind.u64.bits)))) (hd_v rfl fun ρ hρ => ⟨rfl, opv_shr rfl rfl rfl ((hρ 39 (lmem rfl)).trans rfl) ((hρ 41 (lmem rfl)).trans rfl) hz13⟩) rfl rfl
      (ffc (d := 43) (v := .int .u8 (IntKind.u8.wrap (Int.fdiv n_1 (2 ^ (min (IntKind.i64.wrap (8 * k_5)).toNat IntKind.u64.bits))))) (hd_v rfl fun ρ hρ => ⟨rfl, opv_conv rfl rfl underlying24 underlying5 ((hρ 42 (lmem rfl)).trans rfl)⟩) rfl rfl
      ffn)))))))))) ?_
    obtain ⟨p14, aw15, hp16, ha17, H⟩ := H
    refine lt_val (dt := some 44) (v := p14) rfl rfl (fun ρ hρ => ⟨rfl, ov_bsA (r := [.int .u8 (IntKind.u8.wrap (Int.fdiv n_1 (2 ^ (min (IntKind.i64.wrap (8 * k_5)).toNat IntKind.u64.bits))))]) (vs := [.int .u8 (IntKind.u8.wrap (Int.fdiv n_1 (2 ^ (min (IntKind.i64.wrap (8 * k_5)).toNat IntKind.u64.bits))))]) rfl rfl underlying25 sz5 z5 rfl rfl rfl rfl rfl (mp_cons ((hρ 43 (lmem rfl)).trans rfl) rfl) (.one rfl .nil) hp16 ha17⟩) ?_
    obtain ⟨hg12, H⟩ := H
    replace hg12 := hg12 _ _ hp10
    refine lt_next (l := [0, 1, 2, 3, 4]) (hv := []) rfl rfl (pv_nil _)
      (ffc (d := 34) (v := w_0) (hd_v rfl fun ρ hρ => ⟨rfl, opv_move rfl rfl ((hρ 0 (lmem rfl)).trans h0)⟩) rfl rfl
      (ffc (d := 35) (v := w_0) (hd_v rfl fun ρ hρ => ⟨rfl, opv_move rfl rfl ((hρ 0 (lmem rfl)).trans h0)⟩) rfl rfl
      (ffc (d := 36) (v := w_0) (hd_v rfl fun ρ hρ => ⟨rfl, ov_nck rfl rfl ((hρ 35 (lmem rfl)).trans rfl) hp2⟩) rfl rfl
      (ffc (d := 37) (v := p3) (hd_v rfl fun ρ hρ => ⟨rfl, ov_fldA rfl rfl underlying98 rfl sz25 (by decide) ((hρ 36 (lmem rfl)).trans rfl) hp6 rfl hv7⟩) rfl rfl
      (ffc (d := 38) (v := x11) (hd_v rfl fun ρ hρ => ⟨rfl, ov_ldV rfl underlying25 rfl rfl ((hρ 37 (lmem rfl)).trans rfl) hp10 hg12⟩) rfl rfl
      ffn))))) ?_
    obtain ⟨v18, aw19, hq20, H⟩ := H
    refine lt_val (dt := some 45) (v := v18) rfl rfl (fun ρ hρ => ⟨rfl, ov_app rfl rfl rfl rfl underlying25 sz5 by5 underlying25 rfl z5 rfl (by decide) (by decide) ((hρ 38 (lmem rfl)).trans rfl) ((hρ 44 (lmem rfl)).trans rfl) hq20⟩) ?_
    obtain ⟨hp21, H⟩ := H
    obtain ⟨b23, i24, p22, hp25, hv26, H⟩ := H
    refine lt_next (l := [0, 12, 13]) (hv := [(12, w_0), (13, p22)]) rfl rfl (pv_cons rfl (pv_cons rfl (pv_nil _)))
      (ffc (d := 34) (v := w_0) (hd_v rfl fun ρ hρ => ⟨rfl, opv_move rfl rfl ((hρ 0 (lmem rfl)).trans h0)⟩) rfl rfl
      (ffc (d := 46) (v := w_0) (hd_v rfl fun ρ hρ => ⟨rfl, ov_nck rfl rfl ((hρ 34 (lmem rfl)).trans rfl) hp21⟩) rfl rfl
      (ffc (d := 47) (v := p22) (hd_v rfl fun ρ hρ => ⟨rfl, ov_fldA rfl rfl underlying98 rfl sz25 (by decide) ((hρ 46 (lmem rfl)).trans rfl) hp25 rfl hv26⟩) rfl rfl
      ffn))) ?_
    obtain ⟨b28, i29, aw27, hp30, hw31, ho32, ha33, H⟩ := H
    refine lt_val (dt := none) (v := undef) rfl rfl (fun ρ hρ => ⟨rfl, ov_st rfl rfl rfl ((hρ 47 (lmem rfl)).trans rfl) ((hρ 45 (lmem rfl)).trans rfl) (cells_all ho32) sz25 hp30 hw31 ho32 ha33⟩) ?_
    refine lt_next (l := []) (hv := []) rfl rfl (pv_nil _)
      ffn ?_
    refine lt_end ?_
    refine ago_inBlock ?_
    refine ago_cut (fun ρ => ρ 0 = w_0 ∧ ρ 1 = .int .u64 n_1 ∧ ρ 5 = .int .i64 k_5 ∧ True) ⟨h0, h1, h5, trivial⟩ (fun ρ ⟨h0, h1, h5, _⟩ => ?_)
    refine ago_regE E46_31 (l := [0, 1, 2]) rfl ?_
    refine lk (dt := some 32) R46_7_N rfl rfl rfl (opv_move rfl rfl h5) ?_
    refine lk (dt := some 33) R46_7_N rfl rfl rfl (opv_sub rfl rfl rfl rfl rfl) ?_
    refine lk (dt := some 5) R46_7_N rfl rfl rfl (opv_assign rfl rfl rfl) ?_
    refine aops_nil ?_
    refine ago_inLoop ?_
    exact L2 _ w_0 n_1 (IntKind.i64.wrap (k_5 - 1)) aw27 h0 h1 rfl H
  · replace H := cnd_f H hb1
    refine ago_exitE E46_27 rfl ?_
    refine ago_seqE E46_32 ?_
    refine ago_regE E46_33 (l := [0, 1]) rfl ?_
    refine lk (dt := some 48) R46_9_N rfl rfl rfl (opv_move rfl rfl h0) ?_
    refine lk (dt := some 4) R46_9_N rfl rfl rfl (opv_assign rfl rfl rfl) ?_
    refine aops_nil ?_
    exact ago_retE E46_34 (r := w_0) (ares_1 rfl (oneT rfl)) rfl H
theorem S46_2_ok (Q : Value → AW → Prop) (E : List PanicEntry → AW → Prop)  : ∀ (n : Nat) (ρ : Env) (w_0 : Value) (n_1 : Int) (k_5 : Int) (aw : AW) (h0 : ρ 0 = w_0) (h1 : ρ 1 = .int .u64 n_1) (h5 : ρ 5 = .int .i64 k_5), S46_2 Q E  n w_0 n_1 k_5 aw →
    AGo prog 49 [.code C46_22, .inLoop C46_22, .inBlock 2, .code C46_32] ρ [] aw (RR prog f46 49 sh46 Q E)
  | 0, _, _, _, _, _, _, _, _ => fun H => H.elim
  | n + 1, ρ, w_0, n_1, k_5, aw, h0, h1, h5 => fun H => S46_2s_ok Q E  _ (S46_2_ok Q E  n) ρ w_0 n_1 k_5 aw h0 h1 h5 H
theorem S46_1s_ok (Q : Value → AW → Prop) (E : List PanicEntry → AW → Prop)  (nx1 : Value → Int → Int → AW → Prop) (L1 : ∀ (ρ : Env) (w_0 : Value) (n_1 : Int) (k_5 : Int) (aw : AW) (h0 : ρ 0 = w_0) (h1 : ρ 1 = .int .u64 n_1) (h5 : ρ 5 = .int .i64 k_5), nx1 w_0 n_1 k_5 aw → AGo prog 49 [.code C46_7, .inLoop C46_7, .inBlock 0, .code C46_15] ρ [] aw (RR prog f46 49 sh46 Q E)) (ρ : Env) (w_0 : Value) (n_1 : Int) (k_5 : Int) (aw : AW) (h0 : ρ 0 = w_0) (h1 : ρ 1 = .int .u64 n_1) (h5 : ρ 5 = .int .i64 k_5) (H : S46_1s Q E  nx1 w_0 n_1 k_5 aw) :
    AGo prog 49 [.code C46_7, .inLoop C46_7, .inBlock 0, .code C46_15] ρ [] aw (RR prog f46 49 sh46 Q E) := by
  unfold S46_1s at H
  refine ago_seqE E46_7 ?_
  refine ago_seqE E46_8 ?_
  refine ago_regE E46_9 (l := [0, 1, 2, 3, 4, 5, 6, 7, 8]) rfl ?_
  refine lk (dt := some 6) R46_2_N rfl rfl rfl (opv_move rfl rfl h1) ?_
  refine lk (dt := some 7) R46_2_N rfl rfl rfl (opv_move rfl rfl h5) ?_
  refine lk (dt := some 8) R46_2_N rfl rfl rfl (opv_mul rfl rfl rfl rfl rfl) ?_
  obtain ⟨hz34, H⟩ := H
  refine lk (dt := some 9) R46_2_N rfl rfl rfl (opv_shr rfl rfl rfl rfl rfl hz34) ?_
  refine lk (dt := some 10) R46_2_N rfl rfl rfl (opv_gt rfl rfl rfl rfl rfl) ?_
  refine lk (dt := some 11) R46_2_N rfl rfl rfl (opv_move rfl rfl rfl) ?_
  rcases Bool.eq_false_or_eq_true (decide (0 < (Int.fdiv n_1 (2 ^ (min (IntKind.i64.wrap (8 * k_5)).toNat IntKind.u64.bits))))) with hb35 | hb35
  · replace H := cnd_t H hb35
    refine lk (dt := some 12) R46_2_N rfl rfl ⟨_, rfl, .inl ⟨_, rfl, gq hb35 rfl⟩⟩ (opv_move rfl rfl h5) ?_
    refine lk (dt := some 13) R46_2_N rfl rfl ⟨_, rfl, .inl ⟨_, rfl, gq hb35 rfl⟩⟩ (opv_lt rfl rfl rfl rfl rfl) ?_
    refine lk (dt := some 14) R46_2_N rfl rfl rfl (ov_pickT rfl rfl rfl rfl rfl hb35 rfl) ?_
    refine aops_nil ?_
    refine ago_condE  E46_10 rfl rfl (fun hb36 => ?_) (fun hb36 => ?_)
    · replace H := cnd_t H hb36
      refine ago_skipE E46_11 ?_
      refine ago_blockE E46_13 ?_
      refine ago_regE E46_14 (l := [0, 1, 2]) rfl ?_
      refine lk (dt := some 15) R46_3_N rfl rfl rfl (opv_move rfl rfl h5) ?_
      refine lk (dt := some 16) R46_3_N rfl rfl rfl (opv_add rfl rfl rfl rfl rfl) ?_
      refine lk (dt := some 5) R46_3_N rfl rfl rfl (opv_assign rfl rfl rfl) ?_
      refine aops_nil ?_
      refine ago_inBlock ?_
      refine ago_inLoop ?_
      exact L1 _ w_0 n_1 (IntKind.i64.wrap (k_5 + 1)) aw h0 h1 rfl H
    · replace H := cnd_f H hb36
      refine ago_exitE E46_12 rfl ?_
      refine ago_seqE E46_15 ?_
      refine ago_regE E46_16 (l := [0, 1, 2, 3, 4, 5, 6, 7, 8, 9, 10, 11]) rfl ?_
      refine lk (dt := some 17) R46_4_N rfl rfl rfl (opv_move rfl rfl h0) ?_
      refine lk (dt := some 18) R46_4_N rfl rfl rfl (opv_move rfl rfl h0) ?_
      obtain ⟨hp37, H⟩ := H
      refine lk (dt := some 19) R46_4_N rfl rfl rfl (ov_nck rfl rfl rfl hp37) ?_
      obtain ⟨b39, i40, p38, hp41, hv42, H⟩ := H
      refine lk (dt := some 20) R46_4_N rfl rfl rfl (ov_fldA rfl rfl underlying98 rfl sz25 (by decide) rfl hp41 rfl hv42) ?_
      obtain ⟨b43, i44, x46, hp45, hg47, H⟩ := H
      refine lk (dt := some 21) R46_4_N rfl rfl rfl (ov_ldV rfl underlying25 rfl rfl rfl hp45 hg47) ?_
      refine lk (dt := some 22) R46_4_N rfl rfl rfl (opv_move rfl rfl h5) ?_
      refine lk (dt := some 23) R46_4_N rfl rfl rfl (opv_conv rfl rfl underlying3 underlying5 rfl) ?_
      obtain ⟨p48, aw49, hp50, ha51, H⟩ := H
      refine lk (dt := some 24) R46_4_N rfl rfl rfl (ov_bsA (r := [.int .u8 (IntKind.u8.wrap k_5)]) (vs := [.int .u8 (IntKind.u8.wrap k_5)]) rfl rfl underlying25 sz5 z5 rfl rfl rfl rfl rfl (mp_cons rfl rfl) (.one rfl .nil) hp50 ha51) ?_
      obtain ⟨v52, aw53, hq54, H⟩ := H
      refine lk (dt := some 25) R46_4_N rfl rfl rfl (ov_app rfl rfl rfl rfl underlying25 sz5 by5 underlying25 rfl z5 rfl (by decide) (by decide) rfl rfl hq54) ?_
      obtain ⟨hp55, H⟩ := H
      refine lk (dt := some 26) R46_4_N rfl rfl rfl (ov_nck rfl rfl rfl hp55) ?_
      obtain ⟨b57, i58, p56, hp59, hv60, H⟩ := H
      refine lk (dt := some 27) R46_4_N rfl rfl rfl (ov_fldA rfl rfl underlying98 rfl sz25 (by decide) rfl hp59 rfl hv60) ?_
      obtain ⟨b62, i63, aw61, hp64, hw65, ho66, ha67, H⟩ := H
      refine lk (dt := none) R46_4_N rfl rfl rfl (ov_st rfl rfl rfl rfl rfl (cells_all ho66) sz25 hp64 hw65 ho66 ha67) ?_
      refine aops_nil ?_
      refine ago_seqE E46_17 ?_
      refine ago_seqE E46_18 ?_
      refine ago_cut (fun ρ => ρ 0 = w_0 ∧ ρ 1 = .int .u64 n_1 ∧ ρ 5 = .int .i64 k_5 ∧ True) ⟨h0, h1, h5, trivial⟩ (fun ρ ⟨h0, h1, h5, _⟩ => ?_)
      refine ago_regE E46_19 (l := [0, 1, 2]) rfl ?_
      refine lk (dt := some 28) R46_5_N rfl rfl rfl (opv_move rfl rfl h5) ?_
      refine lk (dt := some 29) R46_5_N rfl rfl rfl (opv_sub rfl rfl rfl rfl rfl) ?_
      refine lk (dt := some 5) R46_5_N rfl rfl rfl (opv_assign rfl rfl rfl) ?_
      refine aops_nil ?_
      refine ago_blockE E46_20 ?_
      refine ago_loopE E46_21 ?_
      obtain ⟨n, H⟩ := H
      exact S46_2_ok Q E  n _ w_0 n_1 (IntKind.i64.wrap (k_5 - 1)) aw61 h0 h1 rfl H
  · replace H := cnd_f H hb35
    refine lk_skip (dt := some 12) R46_2_N rfl rfl ⟨_, rfl, .inl ⟨_, rfl, gq hb35 rfl⟩⟩ ?_
    refine lk_skip (dt := some 13) R46_2_N rfl rfl ⟨_, rfl, .inl ⟨_, rfl, gq hb35 rfl⟩⟩ ?_
    refine lk (dt := some 14) R46_2_N rfl rfl rfl (ov_pickF rfl rfl rfl rfl rfl hb35 rfl) ?_
    refine aops_nil ?_
    refine ago_condE  E46_10 rfl rfl (fun h => ft h) (fun h => ?_)
    refine ago_exitE E46_12 rfl ?_
    refine ago_seqE E46_15 ?_
    refine ago_regE E46_16 (l := [0, 1, 2, 3, 4, 5, 6, 7, 8, 9, 10, 11]) rfl ?_
    refine lk (dt := some 17) R46_4_N rfl rfl rfl (opv_move rfl rfl h0) ?_
    refine lk (dt := some 18) R46_4_N rfl rfl rfl (opv_move rfl rfl h0) ?_
    obtain ⟨hp69, H⟩ := H
    refine lk (dt := some 19) R46_4_N rfl rfl rfl (ov_nck rfl rfl rfl hp69) ?_
    obtain ⟨b71, i72, p70, hp73, hv74, H⟩ := H
    refine lk (dt := some 20) R46_4_N rfl rfl rfl (ov_fldA rfl rfl underlying98 rfl sz25 (by decide) rfl hp73 rfl hv74) ?_
    obtain ⟨b75, i76, x78, hp77, hg79, H⟩ := H
    refine lk (dt := some 21) R46_4_N rfl rfl rfl (ov_ldV rfl underlying25 rfl rfl rfl hp77 hg79) ?_
    refine lk (dt := some 22) R46_4_N rfl rfl rfl (opv_move rfl rfl h5) ?_
    refine lk (dt := some 23) R46_4_N rfl rfl rfl (opv_conv rfl rfl underlying3 underlying5 rfl) ?_
    obtain ⟨p80, aw81, hp82, ha83, H⟩ := H
    refine lk (dt := some 24) R46_4_N rfl rfl rfl (ov_bsA (r := [.int .u8 (IntKind.u8.wrap k_5)]) (vs := [.int .u8 (IntKind.u8.wrap k_5)]) rfl rfl underlying25 sz5 z5 rfl rfl rfl rfl rfl (mp_cons rfl rfl) (.one rfl .nil) hp82 ha83) ?_
    obtain ⟨v84, aw85, hq86, H⟩ := H
    refine lk (dt := some 25) R46_4_N rfl rfl rfl (ov_app rfl rfl rfl rfl underlying25 sz5 by5 underlying25 rfl z5 rfl (by decide) (by decide) rfl rfl hq86) ?_
    obtain ⟨hp87, H⟩ := H
    refine lk (dt := some 26) R46_4_N rfl rfl rfl (ov_nck rfl rfl rfl hp87) ?_
    obtain ⟨b89, i90, p88, hp91, hv92, H⟩ := H
    refine lk (dt := some 27) R46_4_N rfl rfl rfl (ov_fldA rfl rfl underlying98 rfl sz25 (by decide) rfl hp91 rfl hv92) ?_
    obtain ⟨b94, i95, aw93, hp96, hw97, ho98, ha99, H⟩ := H
    refine lk (dt := none) R46_4_N rfl rfl rfl (ov_st rfl rfl rfl rfl rfl (cells_all ho98) sz25 hp96 hw97 ho98 ha99) ?_
    refine aops_nil ?_
    refine ago_seqE E46_17 ?_
    refine ago_seqE E46_18 ?_
    refine ago_cut (fun ρ => ρ 0 = w_0 ∧ ρ 1 = .int .u64 n_1 ∧ ρ 5 = .int .i64 k_5 ∧ True) ⟨h0, h1, h5, trivial⟩ (fun ρ ⟨h0, h1, h5, _⟩ => ?_)
    refine ago_regE E46_19 (l := [0, 1, 2]) rfl ?_
    refine lk (dt := some 28) R46_5_N rfl rfl rfl (opv_move rfl rfl h5) ?_
    refine lk (dt := some 29) R46_5_N rfl rfl rfl (opv_sub rfl rfl rfl rfl rfl) ?_
    refine lk (dt := some 5) R46_5_N rfl rfl rfl (opv_assign rfl rfl rfl) ?_
    refine aops_nil ?_
    refine ago_blockE E46_20 ?_
    refine ago_loopE E46_21 ?_
    obtain ⟨n, H⟩ := H
    exact S46_2_ok Q E  n _ w_0 n_1 (IntKind.i64.wrap (k_5 - 1)) aw93 h0 h1 rfl H
theorem S46_1_ok (Q : Value → AW → Prop) (E : List PanicEntry → AW → Prop)  : ∀ (n : Nat) (ρ : Env) (w_0 : Value) (n_1 : Int) (k_5 : Int) (aw : AW) (h0 : ρ 0 = w_0) (h1 : ρ 1 = .int .u64 n_1) (h5 : ρ 5 = .int .i64 k_5), S46_1 Q E  n w_0 n_1 k_5 aw →
    AGo prog 49 [.code C46_7, .inLoop C46_7, .inBlock 0, .code C46_15] ρ [] aw (RR prog f46 49 sh46 Q E)
  | 0, _, _, _, _, _, _, _, _ => fun H => H.elim
  | n + 1, ρ, w_0, n_1, k_5, aw, h0, h1, h5 => fun H => S46_1s_ok Q E  _ (S46_1_ok Q E  n) ρ w_0 n_1 k_5 aw h0 h1 h5 H
theorem S46_0_ok (Q : Value → AW → Prop) (E : List PanicEntry → AW → Prop)  (ρ : Env) (w_0 : Value) (n_1 : Int) (aw : AW) (h0 : ρ 0 = w_0) (h1 : ρ 1 = .int .u64 n_1) (H : S46_0 Q E  w_0 n_1 aw) :
    AGo prog 49 [.code C46_0] ρ [] aw (RR prog f46 49 sh46 Q E) := by
  unfold S46_0 at H
  refine ago_seqE E46_0 ?_
  refine ago_regE E46_1 (l := [0]) rfl ?_
  refine lk (dt := some 4) R46_0_N rfl rfl rfl (opv_assign rfl rfl rfl) ?_
  refine aops_nil ?_
  refine ago_seqE E46_2 ?_
  refine ago_regE E46_3 (l := [0]) rfl ?_
  refine lk (dt := some 5) R46_1_N rfl rfl rfl (opv_assign rfl rfl rfl) ?_
  refine aops_nil ?_
  refine ago_seqE E46_4 ?_
  refine ago_blockE E46_5 ?_
  refine ago_loopE E46_6 ?_
  obtain ⟨n, H⟩ := H
  exact S46_1_ok Q E  n _ w_0 n_1 0 aw h0 h1 rfl H
theorem F46_ok {Q : Value → AW → Prop} {E : List PanicEntry → AW → Prop} (w_0 : Value) (n_1 : Int) (aw : AW) (H : S46_0 Q E w_0 n_1 aw) : CallP prog 46 [w_0, .int .u64 n_1] aw sh46 Q E :=
  callP_of func46 C46_is rfl (Nat.le_of_ble_eq_true rfl) (S46_0_ok Q E _ w_0 n_1 aw rfl rfl H)
def C47_0 : Code := bodyOf f47
theorem C47_is : f47.body = some C47_0 := by kernel_rfl
def C47_1 : Code := cl C47_0
def R47_0 : Array Oper := regOps C47_1
def C47_2 : Code := cr C47_0
def C47_3 : Code := cl C47_2
def R47_1 : Array Oper := regOps C47_3
def C47_4 : Code := cr C47_2
theorem R47_0_N : dstsOk 14 R47_0 = true := by decide +kernel
theorem E47_1 : C47_1 = .region 0 R47_0 false := rfl
theorem R47_1_N : dstsOk 14 R47_1 = true := by decide +kernel
theorem E47_3 : C47_3 = .region 1 R47_1 false := rfl
theorem E47_4 : C47_4 = .ret := rfl
theorem E47_2 : C47_2 = .seq C47_3 C47_4 := rfl
theorem E47_0 : C47_0 = .seq C47_1 C47_2 := rfl
def S47_0 (Q : Value → AW → Prop) (E : List PanicEntry → AW → Prop)  (w_0 : Value) (n_1 : Int) (aw : AW) : Prop :=
  CallP prog 46 [w_0, .int .u64 (bitsOf .xor .u64 (IntKind.u64.wrap (IntKind.i64.wrap (n_1 * 2 ^ (min (1 : Int).toNat IntKind.i64.bits)))) (IntKind.u64.wrap (Int.fdiv n_1 (2 ^ (min (63 : Int).toNat IntKind.i64.bits)))))] aw sh46 (fun r1 aw2 =>
  Q r1 aw2) E
theorem S47_0_ok (Q : Value → AW → Prop) (E : List PanicEntry → AW → Prop)  (ρ : Env) (w_0 : Value) (n_1 : Int) (aw : AW) (h0 : ρ 0 = w_0) (h1 : ρ 1 = .int .i64 n_1) (H : S47_0 Q E  w_0 n_1 aw) :
    AGo prog 14 [.code C47_0] ρ [] aw (RR prog f47 14 sh47 Q E) := by
  unfold S47_0 at H
  refine ago_seqE E47_0 ?_
  refine ago_regE E47_1 (l := [0]) rfl ?_
  refine lk (dt := some 4) R47_0_N rfl rfl rfl (opv_assign rfl rfl rfl) ?_
  refine aops_nil ?_
  refine ago_seqE E47_2 ?_
  refine ago_regE E47_3 (l := [0, 1, 2, 3, 4, 5, 6, 7, 8, 9]) rfl ?_
  refine lk (dt := some 5) R47_1_N rfl rfl rfl (opv_move rfl rfl h0) ?_
  refine lk (dt := some 6) R47_1_N rfl rfl rfl (opv_move rfl rfl h1) ?_
  refine lk (dt := some 7) R47_1_N rfl rfl rfl (opv_shl rfl rfl rfl rfl rfl (by decide)) ?_
  refine lk (dt := some 8) R47_1_N rfl rfl rfl (opv_conv rfl rfl underlying2 underlying24 rfl) ?_
  refine lk (dt := some 9) R47_1_N rfl rfl rfl (opv_move rfl rfl h1) ?_
  refine lk (dt := some 10) R47_1_N rfl rfl rfl (opv_shr rfl rfl rfl rfl rfl (by decide)) ?_
  refine lk (dt := some 11) R47_1_N rfl rfl rfl (opv_conv rfl rfl underlying2 underlying24 rfl) ?_
  refine lk (dt := some 12) R47_1_N rfl rfl rfl (opv_xor rfl rfl rfl rfl rfl) ?_
  refine lk_call (dt := some 13) R47_1_N rfl rfl rfl (opc_of rfl rfl is46 (ma_cons rfl (ma_cons rfl rfl))) H (fun _ _ h => ⟨rfl, h⟩) fun r1 aw2 H => ?_
  refine lk (dt := some 4) R47_1_N rfl rfl rfl (opv_assign rfl rfl rfl) ?_
  refine aops_nil ?_
  exact ago_retE E47_4 (r := r1) (ares_1 rfl (oneT rfl)) rfl H
theorem F47_ok {Q : Value → AW → Prop} {E : List PanicEntry → AW → Prop} (w_0 : Value) (n_1 : Int) (aw : AW) (H : S47_0 Q E w_0 n_1 aw) : CallP prog 47 [w_0, .int .i64 n_1] aw sh47 Q E :=
  callP_of func47 C47_is rfl (Nat.le_of_ble_eq_true rfl) (S47_0_ok Q E _ w_0 n_1 aw rfl rfl H)
def C48_0 : Code := bodyOf f48
theorem C48_is : f48.body = some C48_0 := by kernel_rfl
def C48_1 : Code := cl C48_0
def R48_0 : Array Oper := regOps C48_1
def C48_2 : Code := cr C48_0
def C48_3 : Code := cl C48_2
def R48_1 : Array Oper := regOps C48_3
def C48_4 : Code := cr C48_2
def C48_5 : Code := cl C48_4
def R48_2 : Array Oper := regOps C48_5
def C48_6 : Code := cr C48_4
def C48_7 : Code := cl C48_6
def R48_3 : Array Oper := regOps C48_7
def C48_8 : Code := cr C48_6
theorem R48_0_N : dstsOk 20 R48_0 = true := by decide +kernel
theorem E48_1 : C48_1 = .region 0 R48_0 false := rfl
theorem R48_1_N : dstsOk 20 R48_1 = true := by decide +kernel
theorem E48_3 : C48_3 = .region 1 R48_1 false := rfl
theorem R48_2_N : dstsOk 20 R48_2 = true := by decide +kernel
theorem E48_5 : C48_5 = .region 2 R48_2 false := rfl
theorem R48_3_N : dstsOk 20 R48_3 = true := by decide +kernel
theorem E48_7 : C48_7 = .region 3 R48_3 false := rfl
theorem E48_8 : C48_8 = .ret := rfl
theorem E48_6 : C48_6 = .seq C48_7 C48_8 := rfl
theorem E48_4 : C48_4 = .seq C48_5 C48_6 := rfl
theorem E48_2 : C48_2 = .seq C48_3 C48_4 := rfl
theorem E48_0 : C48_0 = .seq C48_1 C48_2 := rfl
def S48_0 (Q : Value → AW → Prop) (E : List PanicEntry → AW → Prop)  (w_0 : Value) (b_1 : Value) (aw : AW) : Prop :=
  slen b_1 fun n1 =>
  CallP prog 46 [w_0, .int .u64 (IntKind.u64.wrap n1)] aw sh46 (fun r7 aw8 =>
  nck w_0 (fldA w_0 0 fun p10 =>
  ldV aw8 p10 fun x18 =>
  app aw8 5 1 1 x18 b_1 fun v20 aw21 =>
  nck w_0 (fldA w_0 0 fun p24 =>
  st aw21 p24 [v20] fun aw29 =>
  Q w_0 aw29))) E
theorem S48_0_ok (Q : Value → AW → Prop) (E : List PanicEntry → AW → Prop)  (ρ : Env) (w_0 : Value) (b_1 : Value) (aw : AW) (h0 : ρ 0 = w_0) (h1 : ρ 1 = b_1) (H : S48_0 Q E  w_0 b_1 aw) :
    AGo prog 20 [.code C48_0] ρ [] aw (RR prog f48 20 sh48 Q E) := by
  unfold S48_0 at H
  refine ago_seqE E48_0 ?_
  refine ago_regE E48_1 (l := [0]) rfl ?_
  refine lk (dt := some 4) R48_0_N rfl rfl rfl (opv_assign rfl rfl rfl) ?_
  refine aops_nil ?_
  refine ago_seqE E48_2 ?_
  refine ago_regE E48_3 (l := [0, 1, 2, 3, 4]) rfl ?_
  refine lk (dt := some 5) R48_1_N rfl rfl rfl (opv_move rfl rfl h0) ?_
  refine lk (dt := some 6) R48_1_N rfl rfl rfl (opv_move rfl rfl h1) ?_
  obtain ⟨q2, l3, c4, n1, hv5, hn6, H⟩ := H
  refine lk (dt := some 7) R48_1_N rfl rfl rfl (ov_len rfl rfl rfl underlying25 rfl hv5 hn6) ?_
  refine lk (dt := some 8) R48_1_N rfl rfl rfl (opv_conv rfl rfl underlying3 underlying24 rfl) ?_
  refine lk_call (dt := some 9) R48_1_N rfl rfl rfl (opc_of rfl rfl is46 (ma_cons rfl (ma_cons rfl rfl))) H (fun _ _ h => ⟨rfl, h⟩) fun r7 aw8 H => ?_
  refine aops_nil ?_
  refine ago_seqE E48_4 ?_
  refine ago_regE E48_5 (l := [0, 1, 2, 3, 4, 5, 6, 7, 8, 9]) rfl ?_
  refine lk (dt := some 10) R48_2_N rfl rfl rfl (opv_move rfl rfl h0) ?_
  refine lk (dt := some 11) R48_2_N rfl rfl rfl (opv_move rfl rfl h0) ?_
  obtain ⟨hp9, H⟩ := H
  refine lk (dt := some 12) R48_2_N rfl rfl rfl (ov_nck rfl rfl rfl hp9) ?_
  obtain ⟨b11, i12, p10, hp13, hv14, H⟩ := H
  refine lk (dt := some 13) R48_2_N rfl rfl rfl (ov_fldA rfl rfl underlying98 rfl sz25 (by decide) rfl hp13 rfl hv14) ?_
  obtain ⟨b15, i16, x18, hp17, hg19, H⟩ := H
  refine lk (dt := some 14) R48_2_N rfl rfl rfl (ov_ldV rfl underlying25 rfl rfl rfl hp17 hg19) ?_
  refine lk (dt := some 15) R48_2_N rfl rfl rfl (opv_move rfl rfl h1) ?_
  obtain ⟨v20, aw21, hq22, H⟩ := H
  refine lk (dt := some 16) R48_2_N rfl rfl rfl (ov_app rfl rfl rfl rfl underlying25 sz5 by5 underlying25 rfl z5 rfl (by decide) (by decide) rfl rfl hq22) ?_
  obtain ⟨hp23, H⟩ := H
  refine lk (dt := some 17) R48_2_N rfl rfl rfl (ov_nck rfl rfl rfl hp23) ?_
  obtain ⟨b25, i26, p24, hp27, hv28, H⟩ := H
  refine lk (dt := some 18) R48_2_N rfl rfl rfl (ov_fldA rfl rfl underlying98 rfl sz25 (by decide) rfl hp27 rfl hv28) ?_
  obtain ⟨b30, i31, aw29, hp32, hw33, ho34, ha35, H⟩ := H
  refine lk (dt := none) R48_2_N rfl rfl rfl (ov_st rfl rfl rfl rfl rfl (cells_all ho34) sz25 hp32 hw33 ho34 ha35) ?_
  refine aops_nil ?_
  refine ago_seqE E48_6 ?_
  refine ago_cut (fun ρ => ρ 0 = w_0 ∧ True) ⟨h0, trivial⟩ (fun ρ ⟨h0, _⟩ => ?_)
  refine ago_regE E48_7 (l := [0, 1]) rfl ?_
  refine lk (dt := some 19) R48_3_N rfl rfl rfl (opv_move rfl rfl h0) ?_
  refine lk (dt := some 4) R48_3_N rfl rfl rfl (opv_assign rfl rfl rfl) ?_
  refine aops_nil ?_
  exact ago_retE E48_8 (r := w_0) (ares_1 rfl (oneT rfl)) rfl H
theorem F48_ok {Q : Value → AW → Prop} {E : List PanicEntry → AW → Prop} (w_0 : Value) (b_1 : Value) (aw : AW) (H : S48_0 Q E w_0 b_1 aw) : CallP prog 48 [w_0, b_1] aw sh48 Q E :=
  callP_of func48 C48_is rfl (Nat.le_of_ble_eq_true rfl) (S48_0_ok Q E _ w_0 b_1 aw rfl rfl H)
def C50_0 : Code := bodyOf f50
theorem C50_is : f50.body = some C50_0 := by kernel_rfl
def C50_1 : Code := cl C50_0
def R50_0 : Array Oper := regOps C50_1
def C50_2 : Code := cr C50_0
def C50_3 : Code := cl C50_2
def R50_1 : Array Oper := regOps C50_3
def C50_4 : Code := cr C50_2
theorem R50_0_N : dstsOk 8 R50_0 = true := by decide +kernel
theorem E50_1 : C50_1 = .region 0 R50_0 false := rfl
theorem R50_1_N : dstsOk 8 R50_1 = true := by decide +kernel
theorem E50_3 : C50_3 = .region 1 R50_1 false := rfl
theorem E50_4 : C50_4 = .ret := rfl
theorem E50_2 : C50_2 = .seq C50_3 C50_4 := rfl
theorem E50_0 : C50_0 = .seq C50_1 C50_2 := rfl
def S50_0 (Q : Value → AW → Prop) (E : List PanicEntry → AW → Prop)  (w_0 : Value) (aw : AW) : Prop :=
  nck w_0 (fldA w_0 0 fun p2 =>
  ldV aw p2 fun x10 =>
  CallP prog 57 [x10] aw sh57 (fun r12 aw13 =>
  Q r12 aw13) E)
theorem S50_0_ok (Q : Value → AW → Prop) (E : List PanicEntry → AW → Prop)  (ρ : Env) (w_0 : Value) (aw : AW) (h0 : ρ 0 = w_0) (H : S50_0 Q E  w_0 aw) :
    AGo prog 8 [.code C50_0] ρ [] aw (RR prog f50 8 sh50 Q E) := by
  unfold S50_0 at H
  refine ago_seqE E50_0 ?_
  refine ago_regE E50_1 (l := [0]) rfl ?_
  refine lk (dt := some 2) R50_0_N rfl rfl rfl (opv_assign rfl rfl rfl) ?_
  refine aops_nil ?_
  refine ago_seqE E50_2 ?_
  refine ago_regE E50_3 (l := [0, 1, 2, 3, 4, 5]) rfl ?_
  refine lk (dt := some 3) R50_1_N rfl rfl rfl (opv_move rfl rfl h0) ?_
  obtain ⟨hp1, H⟩ := H
  refine lk (dt := some 4) R50_1_N rfl rfl rfl (ov_nck rfl rfl rfl hp1) ?_
  obtain ⟨b3, i4, p2, hp5, hv6, H⟩ := H
  refine lk (dt := some 5) R50_1_N rfl rfl rfl (ov_fldA rfl rfl underlying98 rfl sz25 (by decide) rfl hp5 rfl hv6) ?_
  obtain ⟨b7, i8, x10, hp9, hg11, H⟩ := H
  refine lk (dt := some 6) R50_1_N rfl rfl rfl (ov_ldV rfl underlying25 rfl rfl rfl hp9 hg11) ?_
  refine lk_call (dt := some 7) R50_1_N rfl rfl rfl (opc_of rfl rfl is57 (ma_cons rfl rfl)) H (fun _ _ h => ⟨rfl, h⟩) fun r12 aw13 H => ?_
  refine lk (dt := some 2) R50_1_N rfl rfl rfl (opv_assign rfl rfl rfl) ?_
  refine aops_nil ?_
  exact ago_retE E50_4 (r := r12) (ares_1 rfl (oneT rfl)) rfl H
theorem F50_ok {Q : Value → AW → Prop} {E : List PanicEntry → AW → Prop} (w_0 : Value) (aw : AW) (H : S50_0 Q E w_0 aw) : CallP prog 50 [w_0] aw sh50 Q E :=
  callP_of func50 C50_is rfl (Nat.le_of_ble_eq_true rfl) (S50_0_ok Q E _ w_0 aw rfl H)
def C52_0 : Code := bodyOf f52
theorem C52_is : f52.body = some C52_0 := by kernel_rfl
def C52_1 : Code := cl C52_0
def R52_0 : Array Oper := regOps C52_1
def C52_2 : Code := cr C52_0
def C52_3 : Code := cl C52_2
def C52_4 : Code := cl C52_3
def R52_1 : Array Oper := regOps C52_4
def C52_5 : Code := cr C52_3
def C52_6 : Code := cl C52_5
def C52_7 : Code := cl C52_6
def R52_2 : Array Oper := regOps C52_7
def C52_8 : Code := cr C52_6
def C52_9 : Code := cr C52_5
def C52_10 : Code := cr C52_2
def C52_11 : Code := cl C52_10
def R52_3 : Array Oper := regOps C52_11
def C52_12 : Code := cr C52_10
theorem R52_0_N : dstsOk 16 R52_0 = true := by decide +kernel
theorem E52_1 : C52_1 = .region 0 R52_0 false := rfl
theorem R52_1_N : dstsOk 16 R52_1 = true := by decide +kernel
theorem E52_4 : C52_4 = .region 1 R52_1 false := rfl
theorem R52_2_N : dstsOk 16 R52_2 = true := by decide +kernel
theorem E52_7 : C52_7 = .region 2 R52_2 false := rfl
theorem E52_8 : C52_8 = .ret := rfl
theorem E52_6 : C52_6 = .seq C52_7 C52_8 := rfl
theorem E52_9 : C52_9 = .skip := rfl
theorem E52_5 : C52_5 = .cond (.tmp 4) C52_6 C52_9 := rfl
theorem E52_3 : C52_3 = .seq C52_4 C52_5 := rfl
theorem R52_3_N : dstsOk 16 R52_3 = true := by decide +kernel
theorem E52_11 : C52_11 = .region 3 R52_3 false := rfl
theorem E52_12 : C52_12 = .ret := rfl
theorem E52_10 : C52_10 = .seq C52_11 C52_12 := rfl
theorem E52_2 : C52_2 = .seq C52_3 C52_10 := rfl
theorem E52_0 : C52_0 = .seq C52_1 C52_2 := rfl
def S52_0 (Q : Value → AW → Prop) (E : List PanicEntry → AW → Prop)  (n_0 : Int) (aw : AW) : Prop :=
  cnd (decide (n_0 < 0)) (CallP prog 51 [.int .u64 (IntKind.u64.wrap ((IntKind.u64.wrap ((IntKind.u64.wrap (IntKind.i64.wrap (-(IntKind.i64.wrap (n_0 + 1))))) * 2)) + 1))] aw sh51 (fun r2 aw3 =>
  Q r2 aw3) E) (CallP prog 51 [.int .u64 (IntKind.u64.wrap ((IntKind.u64.wrap n_0) * 2))] aw sh51 (fun r4 aw5 =>
  Q r4 aw5) E)
theorem S52_0_ok (Q : Value → AW → Prop) (E : List PanicEntry → AW → Prop)  (ρ : Env) (n_0 : Int) (aw : AW) (h0 : ρ 0 = .int .i64 n_0) (H : S52_0 Q E  n_0 aw) :
    AGo prog 16 [.code C52_0] ρ [] aw (RR prog f52 16 sh52 Q E) := by
  unfold S52_0 at H
  refine ago_seqE E52_0 ?_
  refine ago_regE E52_1 (l := [0]) rfl ?_
  refine lk (dt := some 2) R52_0_N rfl rfl rfl (opv_assign rfl rfl rfl) ?_
  refine aops_nil ?_
  refine ago_seqE E52_2 ?_
  refine ago_seqE E52_3 ?_
  refine ago_regE E52_4 (l := [0, 1]) rfl ?_
  refine lk (dt := some 3) R52_1_N rfl rfl rfl (opv_move rfl rfl h0) ?_
  refine lk (dt := some 4) R52_1_N rfl rfl rfl (opv_lt rfl rfl rfl rfl rfl) ?_
  refine aops_nil ?_
  refine ago_condE  E52_5 rfl rfl (fun hb1 => ?_) (fun hb1 => ?_)
  · replace H := cnd_t H hb1
    refine ago_seqE E52_6 ?_
    refine ago_regE E52_7 (l := [0, 1, 2, 3, 4, 5, 6, 7]) rfl ?_
    refine lk (dt := some 5) R52_2_N rfl rfl rfl (opv_move rfl rfl h0) ?_
    refine lk (dt := some 6) R52_2_N rfl rfl rfl (opv_add rfl rfl rfl rfl rfl) ?_
    refine lk (dt := some 7) R52_2_N rfl rfl rfl (opv_neg rfl rfl rfl) ?_
    refine lk (dt := some 8) R52_2_N rfl rfl rfl (opv_conv rfl rfl underlying2 underlying24 rfl) ?_
    refine lk (dt := some 9) R52_2_N rfl rfl rfl (opv_mul rfl rfl rfl rfl rfl) ?_
    refine lk (dt := some 10) R52_2_N rfl rfl rfl (opv_add rfl rfl rfl rfl rfl) ?_
    refine lk_call (dt := some 11) R52_2_N rfl rfl rfl (opc_of rfl rfl is51 (ma_cons rfl rfl)) H (fun _ _ h => ⟨rfl, h⟩) fun r2 aw3 H => ?_
    refine lk (dt := some 2) R52_2_N rfl rfl rfl (opv_assign rfl rfl rfl) ?_
    refine aops_nil ?_
    exact ago_retE E52_8 (r := r2) (ares_1 rfl (oneT rfl)) rfl H
  · replace H := cnd_f H hb1
    refine ago_skipE E52_9 ?_
    refine ago_seqE E52_10 ?_
    refine ago_regE E52_11 (l := [0, 1, 2, 3, 4]) rfl ?_
    refine lk (dt := some 12) R52_3_N rfl rfl rfl (opv_move rfl rfl h0) ?_
    refine lk (dt := some 13) R52_3_N rfl rfl rfl (opv_conv rfl rfl underlying2 underlying24 rfl) ?_
    refine lk (dt := some 14) R52_3_N rfl rfl rfl (opv_mul rfl rfl rfl rfl rfl) ?_
    refine lk_call (dt := some 15) R52_3_N rfl rfl rfl (opc_of rfl rfl is51 (ma_cons rfl rfl)) H (fun _ _ h => ⟨rfl, h⟩) fun r4 aw5 H => ?_
    refine lk (dt := some 2) R52_3_N rfl rfl rfl (opv_assign rfl rfl rfl) ?_
    refine aops_nil ?_
    exact ago_retE E52_12 (r := r4) (ares_1 rfl (oneT rfl)) rfl H
theorem F52_ok {Q : Value → AW → Prop} {E : List PanicEntry → AW → Prop} (n_0 : Int) (aw : AW) (H : S52_0 Q E n_0 aw) : CallP prog 52 [.int .i64 n_0] aw sh52 Q E :=
  callP_of func52 C52_is rfl (Nat.le_of_ble_eq_true rfl) (S52_0_ok Q E _ n_0 aw rfl H)
def C53_0 : Code := bodyOf f53
theorem C53_is : f53.body = some C53_0 := by kernel_rfl
def C53_1 : Code := cl C53_0
def R53_0 : Array Oper := regOps C53_1
def C53_2 : Code := cr C53_0
def C53_3 : Code := cl C53_2
def R53_1 : Array Oper := regOps C53_3
def C53_4 : Code := cr C53_2
def C53_5 : Code := cl C53_4
def R53_2 : Array Oper := regOps C53_5
def C53_6 : Code := cr C53_4
theorem R53_0_N : dstsOk 11 R53_0 = true := by decide +kernel
theorem E53_1 : C53_1 = .region 0 R53_0 false := rfl
theorem R53_1_N : dstsOk 11 R53_1 = true := by decide +kernel
theorem E53_3 : C53_3 = .region 1 R53_1 false := rfl
theorem R53_2_N : dstsOk 11 R53_2 = true := by decide +kernel
theorem E53_5 : C53_5 = .region 2 R53_2 false := rfl
theorem E53_6 : C53_6 = .ret := rfl
theorem E53_4 : C53_4 = .seq C53_5 C53_6 := rfl
theorem E53_2 : C53_2 = .seq C53_3 C53_4 := rfl
theorem E53_0 : C53_0 = .seq C53_1 C53_2 := rfl
def S53_0 (Q : Value → AW → Prop) (E : List PanicEntry → AW → Prop)  (b_0 : Value) (aw : AW) : Prop :=
  slen b_0 fun n1 =>
  CallP prog 51 [.int .u64 (IntKind.u64.wrap n1)] aw sh51 (fun r7 aw8 =>
  app aw8 5 1 1 r7 b_0 fun v9 aw10 =>
  Q v9 aw10) E
theorem S53_0_ok (Q : Value → AW → Prop) (E : List PanicEntry → AW → Prop)  (ρ : Env) (b_0 : Value) (aw : AW) (h0 : ρ 0 = b_0) (H : S53_0 Q E  b_0 aw) :
    AGo prog 11 [.code C53_0] ρ [] aw (RR prog f53 11 sh53 Q E) := by
  unfold S53_0 at H
  refine ago_seqE E53_0 ?_
  refine ago_regE E53_1 (l := [0]) rfl ?_
  refine lk (dt := some 2) R53_0_N rfl rfl rfl (opv_assign rfl rfl rfl) ?_
  refine aops_nil ?_
  refine ago_seqE E53_2 ?_
  refine ago_regE E53_3 (l := [0, 1, 2, 3, 4]) rfl ?_
  refine lk (dt := some 4) R53_1_N rfl rfl rfl (opv_move rfl rfl h0) ?_
  obtain ⟨q2, l3, c4, n1, hv5, hn6, H⟩ := H
  refine lk (dt := some 5) R53_1_N rfl rfl rfl (ov_len rfl rfl rfl underlying25 rfl hv5 hn6) ?_
  refine lk (dt := some 6) R53_1_N rfl rfl rfl (opv_conv rfl rfl underlying3 underlying24 rfl) ?_
  refine lk_call (dt := some 7) R53_1_N rfl rfl rfl (opc_of rfl rfl is51 (ma_cons rfl rfl)) H (fun _ _ h => ⟨rfl, h⟩) fun r7 aw8 H => ?_
  refine lk (dt := some 3) R53_1_N rfl rfl rfl (opv_assign rfl rfl rfl) ?_
  refine aops_nil ?_
  refine ago_seqE E53_4 ?_
  refine ago_regE E53_5 (l := [0, 1, 2, 3]) rfl ?_
  refine lk (dt := some 8) R53_2_N rfl rfl rfl (opv_move rfl rfl rfl) ?_
  refine lk (dt := some 9) R53_2_N rfl rfl rfl (opv_move rfl rfl h0) ?_
  obtain ⟨v9, aw10, hq11, H⟩ := H
  refine lk (dt := some 10) R53_2_N rfl rfl rfl (ov_app rfl rfl rfl rfl underlying25 sz5 by5 underlying25 rfl z5 rfl (by decide) (by decide) rfl rfl hq11) ?_
  refine lk (dt := some 2) R53_2_N rfl rfl rfl (opv_assign rfl rfl rfl) ?_
  refine aops_nil ?_
  exact ago_retE E53_6 (r := v9) (ares_1 rfl (oneT rfl)) rfl H
theorem F53_ok {Q : Value → AW → Prop} {E : List PanicEntry → AW → Prop} (b_0 : Value) (aw : AW) (H : S53_0 Q E b_0 aw) : CallP prog 53 [b_0] aw sh53 Q E :=
  callP_of func53 C53_is rfl (Nat.le_of_ble_eq_true rfl) (S53_0_ok Q E _ b_0 aw rfl H)
end
end Go.Proofs.Try
