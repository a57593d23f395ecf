/- Printed by a program of the prover: what the Go functions of this seat do, in steps. -/
import Derived.Test.YtfoceofohlpafaaDoorMaF
set_option linter.unusedSectionVars false
set_option linter.unusedSimpArgs false
set_option linter.unusedVariables false
namespace Go.Proofs.Tryd
open Go Go.Am Go.RowKit
set_option maxHeartbeats 4000000
set_option maxRecDepth 100000
noncomputable section
variable [SymE]
def C35_0 : Code := bodyOf f35
theorem C35_is : f35.body = some C35_0 := by kernel_rfl
def C35_1 : Code := cl C35_0
def R35_0 : Array Oper := regOps C35_1
def C35_2 : Code := cr C35_0
def C35_3 : Code := cl C35_2
def R35_1 : Array Oper := regOps C35_3
def C35_4 : Code := cr C35_2
def C35_5 : Code := cl C35_4
def C35_6 : Code := cl C35_5
def C35_7 : Code := cl C35_6
def C35_8 : Code := cl C35_7
def C35_9 : Code := cl C35_8
def R35_2 : Array Oper := regOps C35_9
def C35_10 : Code := cr C35_8
def C35_11 : Code := cl C35_10
def C35_12 : Code := cr C35_10
def C35_13 : Code := cr C35_7
def C35_14 : Code := cl C35_13
def R35_3 : Array Oper := regOps C35_14
def C35_15 : Code := cr C35_4
def C35_16 : Code := cl C35_15
def R35_4 : Array Oper := regOps C35_16
def C35_17 : Code := cr C35_15
theorem R35_0_N : dstsOk 14 R35_0 = true := by decide +kernel
theorem E35_1 : C35_1 = .region 0 R35_0 false := rfl
theorem R35_1_N : dstsOk 14 R35_1 = true := by decide +kernel
theorem E35_3 : C35_3 = .region 1 R35_1 false := rfl
theorem R35_2_N : dstsOk 14 R35_2 = true := by decide +kernel
theorem E35_9 : C35_9 = .region 2 R35_2 false := rfl
theorem E35_11 : C35_11 = .skip := rfl
theorem E35_12 : C35_12 = .exit 0 := rfl
theorem E35_10 : C35_10 = .cond (.tmp 10) C35_11 C35_12 := rfl
theorem E35_8 : C35_8 = .seq C35_9 C35_10 := rfl
theorem R35_3_N : dstsOk 14 R35_3 = true := by decide +kernel
theorem E35_14 : C35_14 = .region 3 R35_3 false := rfl
theorem E35_13 : C35_13 = .block 1 C35_14 := rfl
theorem E35_7 : C35_7 = .seq C35_8 C35_13 := rfl
theorem E35_6 : C35_6 = .loop C35_7 := rfl
theorem E35_5 : C35_5 = .block 0 C35_6 := rfl
theorem R35_4_N : dstsOk 14 R35_4 = true := by decide +kernel
theorem R35_4_O : linOk R35_4 [0] [(1, [0], []), (2, [], [])] = true := by decide +kernel
theorem E35_16 : C35_16 = .region 4 R35_4 true := rfl
theorem E35_17 : C35_17 = .ret := rfl
theorem E35_15 : C35_15 = .seq C35_16 C35_17 := rfl
theorem E35_4 : C35_4 = .seq C35_5 C35_15 := rfl
theorem E35_2 : C35_2 = .seq C35_3 C35_4 := rfl
theorem E35_0 : C35_0 = .seq C35_1 C35_2 := rfl
def DK35 (Q : (Bool × Int × Int × ByteArray × ByteArray × Value × Int) → AW → Prop) (E : List PanicEntry → AW → Prop) (m_1 : Value) (again_2 : Value) (r_3 : Value) (u : ADone) (aw : AW) : Prop :=
  DefK prog 56 [r_3, m_1, again_2] u aw (fun aw => ptr again_2 fun b73 i74 => gB aw b73 i74 fun c76 => ptr r_3 fun b78 i79 => gI .i64 aw b78 i79 fun c81 => gI .u64 aw b78 (i79 + 1) fun c82 => gS aw b78 (i79 + 2) fun c83 => gS aw b78 (i79 + 3) fun c84 => gV aw b78 (i79 + 4) fun c85 => gI .i64 aw b78 (i79 + 5) fun c86 => Q (c76, c81, c82, c83, c84, c85, c86) aw) E
theorem DK35_ok (Q : (Bool × Int × Int × ByteArray × ByteArray × Value × Int) → AW → Prop) (E : List PanicEntry → AW → Prop) (ρ : Env) (m_1 : Value) (again_2 : Value) (r_3 : Value) (u : ADone) (aw : AW) (h1 : ρ 1 = m_1) (h2 : ρ 2 = again_2) (h3 : ρ 3 = r_3) (H : DK35 Q E m_1 again_2 r_3 u aw) : RD prog f35 14 sh35 Q E u ρ [⟨.fn (.func 56) #[r_3, m_1, again_2], #[]⟩] aw :=
  aleaves_one is56 rfl H fun aw H => by
    obtain ⟨b73, i74, hp75, c76, hg77, H⟩ := H
    obtain ⟨b78, i79, hp80, c81, hg87, c82, hg88, c83, hg89, c84, hg90, c85, hg91, c86, hg92, H⟩ := H
    exact ⟨(c76, c81, c82, c83, c84, c85, c86), (ares_2 rfl (one1 h2 hp75 underlying4 rfl hg77) (oneN h3 hp80 underlying29 rfl sz29 (getN_cons hg87 (getN_cons hg88 (getN_cons hg89 (getN_cons hg90 (getN_cons hg91 (getN_cons hg92 getN_nil)))))))), H⟩
def S35_1s (Q : (Bool × Int × Int × ByteArray × ByteArray × Value × Int) → AW → Prop) (E : List PanicEntry → AW → Prop)  (nx1 : Value → Value → Value → AW → Prop) (m_1 : Value) (again_2 : Value) (r_3 : Value) (aw : AW) : Prop :=
  ldV aw m_1 fun x4 =>
  nck x4 (fldA x4 4 fun p7 =>
  ldV aw p7 fun x15 =>
  slen x15 fun n17 =>
  cnd (decide (0 < n17)) (ldV aw m_1 fun x27 =>
  CallP prog 58 [x27] aw sh58 (fun r29 aw30 =>
  nx1 m_1 again_2 r_3 aw30) (fun ch aw => DK35 Q E m_1 again_2 r_3 (.panic ch) aw)) (ptr r_3 fun b31 i32 =>
  gI .i64 aw b31 i32 fun c34 =>
  gI .u64 aw b31 (i32 + 1) fun c35 =>
  gS aw b31 (i32 + 2) fun c36 =>
  gS aw b31 (i32 + 3) fun c37 =>
  gV aw b31 (i32 + 4) fun c38 =>
  gI .i64 aw b31 (i32 + 5) fun c39 =>
  st aw again_2 [.bool false] fun aw46 =>
  aw46.get b31 i32 = some (.int .i64 c34) ∧ aw46.get b31 (i32 + 1) = some (.int .u64 c35) ∧ aw46.get b31 (i32 + 2) = some (.string c36) ∧ aw46.get b31 (i32 + 3) = some (.string c37) ∧ aw46.get b31 (i32 + 4) = some (c38) ∧ aw46.get b31 (i32 + 5) = some (.int .i64 c39) ∧ st aw46 r_3 [.int .i64 c34, .int .u64 c35, .string c36, .string c37, c38, .int .i64 c39] fun aw53 =>
  DK35 Q E m_1 again_2 r_3 .ret aw53))
def S35_1 (Q : (Bool × Int × Int × ByteArray × ByteArray × Value × Int) → AW → Prop) (E : List PanicEntry → AW → Prop)  : Nat → Value → Value → Value → AW → Prop
  | 0 => fun _ _ _ _ => False
  | n + 1 => S35_1s Q E  (S35_1 Q E  n)
def S35_0 (Q : (Bool × Int × Int × ByteArray × ByteArray × Value × Int) → AW → Prop) (E : List PanicEntry → AW → Prop)  (m_0 : Value) (aw : AW) : Prop :=
  one m_0 = true ∧ alc aw [m_0] 30 0 fun p60 aw61 =>
  alc aw61 [.bool false] 4 0 fun p65 aw66 =>
  alc aw66 [.int .i64 0, .int .u64 0, .string (⟨#[]⟩ : ByteArray), .string (⟨#[]⟩ : ByteArray), (.slice none 0 0), .int .i64 0] 29 0 fun p69 aw70 =>
  ∃ n, S35_1 Q E  n p60 p65 p69 aw70
theorem S35_1s_ok (Q : (Bool × Int × Int × ByteArray × ByteArray × Value × Int) → AW → Prop) (E : List PanicEntry → AW → Prop)  (nx1 : Value → Value → Value → AW → Prop) (L1 : ∀ (ρ : Env) (m_1 : Value) (again_2 : Value) (r_3 : Value) (aw : AW) (h1 : ρ 1 = m_1) (h2 : ρ 2 = again_2) (h3 : ρ 3 = r_3), nx1 m_1 again_2 r_3 aw → AGo prog 14 [.code C35_7, .inLoop C35_7, .inBlock 0, .code C35_15] ρ [⟨.fn (.func 56) #[r_3, m_1, again_2], #[]⟩] aw (RD prog f35 14 sh35 Q E)) (ρ : Env) (m_1 : Value) (again_2 : Value) (r_3 : Value) (aw : AW) (h1 : ρ 1 = m_1) (h2 : ρ 2 = again_2) (h3 : ρ 3 = r_3) (H : S35_1s Q E  nx1 m_1 again_2 r_3 aw) :
    AGo prog 14 [.code C35_7, .inLoop C35_7, .inBlock 0, .code C35_15] ρ [⟨.fn (.func 56) #[r_3, m_1, again_2], #[]⟩] aw (RD prog f35 14 sh35 Q E) := by
  unfold S35_1s at H
  refine ago_seqE E35_7 ?_
  refine ago_seqE E35_8 ?_
  refine ago_regE E35_9 (l := [0, 1, 2, 3, 4, 5]) rfl ?_
  obtain ⟨b1, i2, x4, hp3, hg5, H⟩ := H
  refine lk (dt := some 5) R35_2_N rfl rfl rfl (ov_ldV rfl underlying30 rfl rfl h1 hp3 hg5) ?_
  obtain ⟨hp6, H⟩ := H
  refine lk (dt := some 6) R35_2_N rfl rfl rfl (ov_nck rfl rfl rfl hp6) ?_
  obtain ⟨b8, i9, p7, hp10, hv11, H⟩ := H
  refine lk (dt := some 7) R35_2_N rfl rfl rfl (ov_fldA rfl rfl underlying77 rfl sz70 (by decide) rfl hp10 rfl hv11) ?_
  obtain ⟨b12, i13, x15, hp14, hg16, H⟩ := H
  refine lk (dt := some 8) R35_2_N rfl rfl rfl (ov_ldV rfl underlying70 rfl rfl rfl hp14 hg16) ?_
  obtain ⟨q18, l19, c20, n17, hv21, hn22, H⟩ := H
  refine lk (dt := some 9) R35_2_N rfl rfl rfl (ov_len rfl rfl rfl underlying70 rfl hv21 hn22) ?_
  refine lk (dt := some 10) R35_2_N rfl rfl rfl (opv_gt rfl rfl rfl rfl rfl) ?_
  refine aops_nil ?_
  refine ago_condE  E35_10 rfl rfl (fun hb23 => ?_) (fun hb23 => ?_)
  · replace H := cnd_t H hb23
    refine ago_skipE E35_11 ?_
    refine ago_blockE E35_13 ?_
    refine ago_regE E35_14 (l := [0, 1]) rfl ?_
    obtain ⟨b24, i25, x27, hp26, hg28, H⟩ := H
    refine lk (dt := some 11) R35_3_N rfl rfl rfl (ov_ldV rfl underlying30 rfl rfl h1 hp26 hg28) ?_
    refine lk_call (dt := some 12) R35_3_N rfl rfl rfl (opc_of rfl rfl is58 (ma_cons rfl rfl)) H (fun _ _ h => (DK35_ok Q E _ m_1 again_2 r_3 _ _ h1 h2 h3 h)) fun r29 aw30 H => ?_
    refine aops_nil ?_
    refine ago_inBlock ?_
    refine ago_inLoop ?_
    exact L1 _ m_1 again_2 r_3 aw30 h1 h2 h3 H
  · replace H := cnd_f H hb23
    refine ago_exitE E35_12 rfl ?_
    refine ago_seqE E35_15 ?_
    obtain ⟨b31, i32, hp33, c34, hg40, c35, hg41, c36, hg42, c37, hg43, c38, hg44, c39, hg45, H⟩ := H
    refine ago_drawH (p := [0]) (tl := [(1, [0], []), (2, [], [])]) (hv := [(0, Value.agg #[.int .i64 c34, .int .u64 c35, .string c36, .string c37, c38, .int .i64 c39])]) E35_16 mixed R35_4_N R35_4_O rfl (pv_cons rfl (pv_nil _))
      (ffc (d := 13) (v := .agg #[.int .i64 c34, .int .u64 c35, .string c36, .string c37, c38, .int .i64 c39]) (hd_v rfl fun ρ hρ => ⟨rfl, ov_ldN rfl underlying29 rfl sz29 rfl ((hρ 3 (lmem rfl)).trans h3) hp33 (getN_cons hg40 (getN_cons hg41 (getN_cons hg42 (getN_cons hg43 (getN_cons hg44 (getN_cons hg45 getN_nil))))))⟩) rfl rfl
      ffn) ?_
    obtain ⟨b47, i48, aw46, hp49, hw50, ho51, ha52, H⟩ := H
    refine lt_val (dt := none) (v := undef) rfl rfl (fun ρ hρ => ⟨rfl, ov_st rfl rfl rfl ((hρ 2 (lmem rfl)).trans h2) rfl rfl sz4 hp49 hw50 ho51 ha52⟩) ?_
    obtain ⟨hg40, H⟩ := H
    obtain ⟨hg41, H⟩ := H
    obtain ⟨hg42, H⟩ := H
    obtain ⟨hg43, H⟩ := H
    obtain ⟨hg44, H⟩ := H
    obtain ⟨hg45, H⟩ := H
    refine lt_next (l := [0]) (hv := []) rfl rfl (pv_nil _)
      (ffc (d := 13) (v := .agg #[.int .i64 c34, .int .u64 c35, .string c36, .string c37, c38, .int .i64 c39]) (hd_v rfl fun ρ hρ => ⟨rfl, ov_ldN rfl underlying29 rfl sz29 rfl ((hρ 3 (lmem rfl)).trans h3) hp33 (getN_cons hg40 (getN_cons hg41 (getN_cons hg42 (getN_cons hg43 (getN_cons hg44 (getN_cons hg45 getN_nil))))))⟩) rfl rfl
      ffn) ?_
    obtain ⟨b54, i55, aw53, hp56, hw57, ho58, ha59, H⟩ := H
    refine lt_val (dt := none) (v := undef) rfl rfl (fun ρ hρ => ⟨rfl, ov_st rfl rfl rfl ((hρ 3 (lmem rfl)).trans h3) ((hρ 13 (lmem rfl)).trans rfl) rfl sz29 hp56 hw57 ho58 ha59⟩) ?_
    refine lt_next (l := []) (hv := []) rfl rfl (pv_nil _)
      ffn ?_
    refine lt_end ?_
    exact ago_retD E35_17 (DK35_ok Q E _ m_1 again_2 r_3 _ _ h1 h2 h3 H)
theorem S35_1_ok (Q : (Bool × Int × Int × ByteArray × ByteArray × Value × Int) → AW → Prop) (E : List PanicEntry → AW → Prop)  : ∀ (n : Nat) (ρ : Env) (m_1 : Value) (again_2 : Value) (r_3 : Value) (aw : AW) (h1 : ρ 1 = m_1) (h2 : ρ 2 = again_2) (h3 : ρ 3 = r_3), S35_1 Q E  n m_1 again_2 r_3 aw →
    AGo prog 14 [.code C35_7, .inLoop C35_7, .inBlock 0, .code C35_15] ρ [⟨.fn (.func 56) #[r_3, m_1, again_2], #[]⟩] aw (RD prog f35 14 sh35 Q E)
  | 0, _, _, _, _, _, _, _, _ => fun H => H.elim
  | n + 1, ρ, m_1, again_2, r_3, aw, h1, h2, h3 => fun H => S35_1s_ok Q E  _ (S35_1_ok Q E  n) ρ m_1 again_2 r_3 aw h1 h2 h3 H
theorem S35_0_ok (Q : (Bool × Int × Int × ByteArray × ByteArray × Value × Int) → AW → Prop) (E : List PanicEntry → AW → Prop)  (ρ : Env) (m_0 : Value) (aw : AW) (h0 : ρ 0 = m_0) (H : S35_0 Q E  m_0 aw) :
    AGo prog 14 [.code C35_0] ρ [] aw (RD prog f35 14 sh35 Q E) := by
  unfold S35_0 at H
  refine ago_seqE E35_0 ?_
  refine ago_regE E35_1 (l := [0, 1, 2]) rfl ?_
  obtain ⟨h164, H⟩ := H
  obtain ⟨p60, aw61, hp62, ha63, H⟩ := H
  refine lk (dt := some 1) R35_0_N rfl rfl rfl (ov_box rfl rfl h0 (cells_one h164) hp62 ha63) ?_
  obtain ⟨p65, aw66, hp67, ha68, H⟩ := H
  refine lk (dt := some 2) R35_0_N rfl rfl rfl (ov_alloc rfl z4 rfl rfl hp67 ha68) ?_
  obtain ⟨p69, aw70, hp71, ha72, H⟩ := H
  refine lk (dt := some 3) R35_0_N rfl rfl rfl (ov_alloc rfl z29 rfl rfl hp71 ha72) ?_
  refine aops_nil ?_
  refine ago_seqE E35_2 ?_
  refine ago_regE E35_3 (l := [0, 1]) rfl ?_
  refine lk (dt := some 4) R35_1_N rfl rfl rfl (ov_mkF rfl rfl rfl rfl (ma_cons rfl (ma_cons rfl (ma_cons rfl rfl)))) ?_
  refine lk_defer (dt := none) R35_1_N rfl rfl rfl rfl rfl rfl rfl rfl rfl ?_
  refine aops_nil ?_
  refine ago_seqE E35_4 ?_
  refine ago_blockE E35_5 ?_
  refine ago_loopE E35_6 ?_
  obtain ⟨n, H⟩ := H
  exact S35_1_ok Q E  n _ p60 p65 p69 aw70 rfl rfl rfl H
theorem F35_ok {Q : (Bool × Int × Int × ByteArray × ByteArray × Value × Int) → AW → Prop} {E : List PanicEntry → AW → Prop} (m_0 : Value) (aw : AW) (H : S35_0 Q E m_0 aw) : CallP prog 35 [m_0] aw sh35 Q E :=
  callP_of_d func35 C35_is rfl (Nat.le_of_ble_eq_true rfl) (S35_0_ok Q E _ m_0 aw rfl H)
def C56_0 : Code := bodyOf f56
theorem C56_is : f56.body = some C56_0 := by kernel_rfl
def C56_1 : Code := cl C56_0
def R56_0 : Array Oper := regOps C56_1
def C56_2 : Code := cr C56_0
def C56_3 : Code := cl C56_2
def C56_4 : Code := cl C56_3
def R56_3 : Array Oper := regOps C56_4
def C56_5 : Code := cr C56_3
def C56_6 : Code := cl C56_5
def R56_4 : Array Oper := regOps C56_6
def C56_7 : Code := cr C56_5
def C56_8 : Code := cl C56_7
def R56_5 : Array Oper := regOps C56_8
def C56_9 : Code := cr C56_7
def C56_10 : Code := cl C56_9
def C56_11 : Code := cl C56_10
def R56_6 : Array Oper := regOps C56_11
def C56_12 : Code := cr C56_10
def R56_7 : Array Oper := regOps C56_12
def C56_13 : Code := cr C56_9
def C56_14 : Code := cl C56_13
def R56_8 : Array Oper := regOps C56_14
def C56_15 : Code := cr C56_13
def C56_16 : Code := cl C56_15
def C56_17 : Code := cl C56_16
def R56_9 : Array Oper := regOps C56_17
def C56_18 : Code := cr C56_16
def R56_10 : Array Oper := regOps C56_18
def C56_19 : Code := cr C56_15
def C56_20 : Code := cl C56_19
def R56_1 : Array Oper := regOps C56_20
def C56_21 : Code := cr C56_19
def R56_2 : Array Oper := regOps C56_21
theorem R56_3_N : dstsOk 26 R56_3 = true := by decide +kernel
theorem E56_4 : C56_4 = .region 3 R56_3 false := rfl
theorem R56_4_N : dstsOk 26 R56_4 = true := by decide +kernel
theorem E56_6 : C56_6 = .region 4 R56_4 false := rfl
theorem R56_5_N : dstsOk 26 R56_5 = true := by decide +kernel
theorem E56_8 : C56_8 = .region 5 R56_5 false := rfl
theorem R56_6_N : dstsOk 26 R56_6 = true := by decide +kernel
theorem E56_11 : C56_11 = .region 6 R56_6 false := rfl
theorem R56_7_N : dstsOk 26 R56_7 = true := by decide +kernel
theorem E56_12 : C56_12 = .region 7 R56_7 false := rfl
theorem E56_10 : C56_10 = .seq C56_11 C56_12 := rfl
theorem R56_8_N : dstsOk 26 R56_8 = true := by decide +kernel
theorem E56_14 : C56_14 = .region 8 R56_8 false := rfl
theorem R56_9_N : dstsOk 26 R56_9 = true := by decide +kernel
theorem E56_17 : C56_17 = .region 9 R56_9 false := rfl
theorem R56_10_N : dstsOk 26 R56_10 = true := by decide +kernel
theorem E56_18 : C56_18 = .region 10 R56_10 false := rfl
theorem E56_16 : C56_16 = .seq C56_17 C56_18 := rfl
theorem R56_1_N : dstsOk 26 R56_1 = true := by decide +kernel
theorem E56_20 : C56_20 = .region 1 R56_1 false := rfl
theorem R56_2_N : dstsOk 26 R56_2 = true := by decide +kernel
theorem E56_21 : C56_21 = .region 2 R56_2 false := rfl
theorem E56_19 : C56_19 = .seq C56_20 C56_21 := rfl
theorem E56_15 : C56_15 = .cond (.tmp 17) C56_16 C56_19 := rfl
theorem E56_13 : C56_13 = .seq C56_14 C56_15 := rfl
theorem E56_9 : C56_9 = .cond (.tmp 11) C56_10 C56_13 := rfl
theorem E56_7 : C56_7 = .seq C56_8 C56_9 := rfl
theorem E56_5 : C56_5 = .cond (.tmp 9) C56_6 C56_7 := rfl
theorem E56_3 : C56_3 = .seq C56_4 C56_5 := rfl
theorem E56_2 : C56_2 = .block 0 C56_3 := rfl
def S56_0 (Q : Unit → AW → Prop) (E : List PanicEntry → AW → Prop)  (t_0 : Value) (t_1 : Value) (t_2 : Value) (t_7 : Value) (aw : AW) : Prop :=
  nilB (.interface #[]) t_7 (.nilIface ) fun q1 =>
  cnd q1 (Q () aw) (tyQ 114 t_7 (fun v5 => ∃ c8, v5 = .agg #[.int .i64 c8] ∧ alc aw [.int .i64 0] 114 0 fun p10 aw11 =>
  st aw11 p10 [.int .i64 c8] fun aw14 =>
  fldA p10 0 fun p21 =>
  ldI .i64 aw14 p21 fun x29 =>
  st aw14 t_0 [.int .i64 x29, .int .u64 0, .string (⟨#[]⟩ : ByteArray), .string (⟨#[]⟩ : ByteArray), (.slice none 0 0), .int .i64 0] fun aw31 =>
  Q () aw31) (tyQ 116 t_7 (fun v39 => ∃ c42, v39 = .agg #[.string c42] ∧ alc aw [.string (⟨#[]⟩ : ByteArray)] 116 0 fun p44 aw45 =>
  st aw45 p44 [.string c42] fun aw48 =>
  ldV aw48 t_1 fun x58 =>
  fldA p44 0 fun p60 =>
  ldS aw48 p60 fun x68 =>
  CallP prog 57 [x58, .string x68] aw48 sh57 (fun r70 aw71 =>
  st aw71 t_2 [.bool r70.1] fun aw72 =>
  st aw72 t_0 [.int .i64 r70.2.1, .int .u64 r70.2.2.1, .string r70.2.2.2.1, .string r70.2.2.2.2.1, r70.2.2.2.2.2.1, .int .i64 r70.2.2.2.2.2.2] fun aw79 =>
  Q () aw79) E) (∃ u87 z88, t_7 = .iface u87 z88 ∧ E [⟨.iface u87 z88, false, false⟩] aw)))
theorem S56_0_ok (Q : Unit → AW → Prop) (E : List PanicEntry → AW → Prop)  (ρ : Env) (t_0 : Value) (t_1 : Value) (t_2 : Value) (t_7 : Value) (aw : AW) (h0 : ρ 0 = t_0) (h1 : ρ 1 = t_1) (h2 : ρ 2 = t_2) (h7 : ρ 7 = t_7) (H : S56_0 Q E  t_0 t_1 t_2 t_7 aw) :
    AGo prog 26 [.inRegion R56_0 [], .code C56_2] ρ [] aw (RR prog f56 26 sh56 Q E) := by
  unfold S56_0 at H
  refine ago_inRegion ?_
  refine aops_nil ?_
  refine ago_blockE E56_2 ?_
  refine ago_seqE E56_3 ?_
  refine ago_regE E56_4 (l := [0]) rfl ?_
  obtain ⟨q1, hf2, hq3, H⟩ := H
  refine lk (dt := some 9) R56_3_N rfl rfl rfl (ov_eqNil rfl rfl underlying20 h7 hf2 hq3) ?_
  refine aops_nil ?_
  refine ago_condE  E56_5 rfl rfl (fun hb4 => ?_) (fun hb4 => ?_)
  · replace H := cnd_t H hb4
    refine ago_regE E56_6 (l := [0]) rfl ?_
    refine lk (dt := some 3) R56_4_N rfl rfl rfl (opv_assign rfl rfl h7) ?_
    refine aops_nil ?_
    refine ago_inBlock ?_
    exact ago_nilR (r := ()) (ares_0 rfl ) rfl H
  · replace H := cnd_f H hb4
    refine ago_seqE E56_7 ?_
    refine ago_regE E56_8 (l := [0, 1, 2]) rfl ?_
    rcases H with ⟨v5, hu6, H⟩ | ⟨hu6, H⟩
    · skip
      obtain ⟨c8, hv7, H⟩ := H
      refine lk (dt := some 10) R56_5_N rfl rfl rfl (ov_tyY rfl rfl underlying114 rfl h7 (hu6.trans (congrArg (Value.iface 114) hv7))) ?_
      refine lk (dt := some 11) R56_5_N rfl rfl rfl (opv_extract rfl rfl rfl rfl) ?_
      refine lk (dt := some 12) R56_5_N rfl rfl rfl (opv_extract rfl rfl rfl rfl) ?_
      refine aops_nil ?_
      refine ago_condE  E56_9 rfl rfl (fun h => ?_) (fun h => tf h)
      refine ago_seqE E56_10 ?_
      refine ago_regE E56_11 (l := [0, 1]) rfl ?_
      obtain ⟨p10, aw11, hp12, ha13, H⟩ := H
      refine lk (dt := some 4) R56_6_N rfl rfl rfl (ov_alloc rfl z114 rfl rfl hp12 ha13) ?_
      obtain ⟨b15, i16, aw14, hp17, hw18, ho19, ha20, H⟩ := H
      refine lk (dt := none) R56_6_N rfl rfl rfl (ov_st rfl rfl rfl rfl rfl rfl sz114 hp17 hw18 ho19 ha20) ?_
      refine aops_nil ?_
      refine ago_regE E56_12 (l := [0, 1, 2, 3]) rfl ?_
      obtain ⟨b22, i23, p21, hp24, hv25, H⟩ := H
      refine lk (dt := some 13) R56_7_N rfl rfl rfl (ov_fldA rfl rfl underlying114 rfl sz24 (by decide) rfl hp24 rfl hv25) ?_
      obtain ⟨b26, i27, x29, hp28, hg30, H⟩ := H
      refine lk (dt := some 14) R56_7_N rfl rfl rfl (ov_ldI rfl underlying24 rfl rfl hp28 hg30) ?_
      refine lk (dt := some 15) R56_7_N rfl rfl rfl (ov_bld (r := [.int .i64 x29, .int .u64 0, .string (⟨#[]⟩ : ByteArray), .string (⟨#[]⟩ : ByteArray), (.slice none 0 0), .int .i64 0]) rfl rfl bo29 (mp_cons rfl rfl) (fillP rfl rfl rfl rfl (fillN rfl))) ?_
      obtain ⟨b32, i33, aw31, hp34, hw35, ho36, ha37, H⟩ := H
      refine lk (dt := none) R56_7_N rfl rfl rfl (ov_st rfl rfl rfl h0 rfl rfl sz29 hp34 hw35 ho36 ha37) ?_
      refine aops_nil ?_
      refine ago_inBlock ?_
      exact ago_nilR (r := ()) (ares_0 rfl ) rfl H
    · skip
      refine lk (dt := some 10) R56_5_N rfl rfl rfl (ov_tyN rfl rfl underlying114 rfl z114 rfl h7 hu6) ?_
      refine lk (dt := some 11) R56_5_N rfl rfl rfl (opv_extract rfl rfl rfl rfl) ?_
      refine lk (dt := some 12) R56_5_N rfl rfl rfl (opv_extract rfl rfl rfl rfl) ?_
      refine aops_nil ?_
      refine ago_condE  E56_9 rfl rfl (fun h => ft h) (fun h => ?_)
      refine ago_seqE E56_13 ?_
      refine ago_regE E56_14 (l := [0, 1, 2]) rfl ?_
      rcases H with ⟨v39, hu40, H⟩ | ⟨hu40, H⟩
      · skip
        obtain ⟨c42, hv41, H⟩ := H
        refine lk (dt := some 16) R56_8_N rfl rfl rfl (ov_tyY rfl rfl underlying116 rfl h7 (hu40.trans (congrArg (Value.iface 116) hv41))) ?_
        refine lk (dt := some 17) R56_8_N rfl rfl rfl (opv_extract rfl rfl rfl rfl) ?_
        refine lk (dt := some 18) R56_8_N rfl rfl rfl (opv_extract rfl rfl rfl rfl) ?_
        refine aops_nil ?_
        refine ago_condE  E56_15 rfl rfl (fun h => ?_) (fun h => tf h)
        refine ago_seqE E56_16 ?_
        refine ago_regE E56_17 (l := [0, 1]) rfl ?_
        obtain ⟨p44, aw45, hp46, ha47, H⟩ := H
        refine lk (dt := some 5) R56_9_N rfl rfl rfl (ov_alloc rfl z116 rfl rfl hp46 ha47) ?_
        obtain ⟨b49, i50, aw48, hp51, hw52, ho53, ha54, H⟩ := H
        refine lk (dt := none) R56_9_N rfl rfl rfl (ov_st rfl rfl rfl rfl rfl rfl sz116 hp51 hw52 ho53 ha54) ?_
        refine aops_nil ?_
        refine ago_regE E56_18 (l := [0, 1, 2, 3, 4, 5, 6, 7, 8]) rfl ?_
        obtain ⟨b55, i56, x58, hp57, hg59, H⟩ := H
        refine lk (dt := some 20) R56_10_N rfl rfl rfl (ov_ldV rfl underlying30 rfl rfl h1 hp57 hg59) ?_
        obtain ⟨b61, i62, p60, hp63, hv64, H⟩ := H
        refine lk (dt := some 21) R56_10_N rfl rfl rfl (ov_fldA rfl rfl underlying116 rfl sz9 (by decide) rfl hp63 rfl hv64) ?_
        obtain ⟨b65, i66, x68, hp67, hg69, H⟩ := H
        refine lk (dt := some 22) R56_10_N rfl rfl rfl (ov_ldS rfl underlying9 rfl rfl hp67 hg69) ?_
        refine lk_call (dt := some 23) R56_10_N rfl rfl rfl (opc_of rfl rfl is57 (ma_cons rfl (ma_cons rfl rfl))) H (fun _ _ h => ⟨rfl, h⟩) fun r70 aw71 H => ?_
        refine lk (dt := some 19) R56_10_N rfl rfl rfl (opv_move rfl rfl rfl) ?_
        refine lk (dt := some 24) R56_10_N rfl rfl rfl (opv_extract rfl rfl rfl rfl) ?_
        refine lk (dt := some 25) R56_10_N rfl rfl rfl (opv_extract rfl rfl rfl rfl) ?_
        obtain ⟨b73, i74, aw72, hp75, hw76, ho77, ha78, H⟩ := H
        refine lk (dt := none) R56_10_N rfl rfl rfl (ov_st rfl rfl rfl h2 rfl rfl sz4 hp75 hw76 ho77 ha78) ?_
        obtain ⟨b80, i81, aw79, hp82, hw83, ho84, ha85, H⟩ := H
        refine lk (dt := none) R56_10_N rfl rfl rfl (ov_st rfl rfl rfl h0 rfl rfl sz29 hp82 hw83 ho84 ha85) ?_
        refine aops_nil ?_
        refine ago_inBlock ?_
        exact ago_nilR (r := ()) (ares_0 rfl ) rfl H
      · skip
        refine lk (dt := some 16) R56_8_N rfl rfl rfl (ov_tyN rfl rfl underlying116 rfl z116 rfl h7 hu40) ?_
        refine lk (dt := some 17) R56_8_N rfl rfl rfl (opv_extract rfl rfl rfl rfl) ?_
        refine lk (dt := some 18) R56_8_N rfl rfl rfl (opv_extract rfl rfl rfl rfl) ?_
        refine aops_nil ?_
        refine ago_condE  E56_15 rfl rfl (fun h => ft h) (fun h => ?_)
        refine ago_seqE E56_19 ?_
        refine ago_regE E56_20 (l := [0]) rfl ?_
        refine lk (dt := some 6) R56_1_N rfl rfl rfl (opv_assign rfl rfl h7) ?_
        refine aops_nil ?_
        refine ago_regE E56_21 (l := [0, 1]) rfl ?_
        refine lk (dt := some 8) R56_2_N rfl rfl rfl (opv_move rfl rfl rfl) ?_
        obtain ⟨u87, z88, hz89, H⟩ := H
        exact aops_panic R56_2_N rfl rfl (opp_panic rfl rfl (rfl.trans hz89)) ⟨rfl, H⟩
theorem F56_okD {K : ADone → AW → Prop} {E : List PanicEntry → ADone → AW → Prop} (t_0 : Value) (t_1 : Value) (t_2 : Value) (u : ADone) (aw : AW) (H : S56_0 (fun _ aw => K (recovers u).2 aw) (fun ch aw => E ch (recovers u).2 aw) t_0 t_1 t_2 (recovers u).1 aw) : DefP prog 56 [t_0, t_1, t_2] u aw K E :=
  defP_of (dt := some 7) func56 C56_is rfl (Nat.le_of_ble_eq_true rfl) (.seq (.refl _)) rfl rfl rfl rfl rfl (fun d h => by injection h with h; subst h; decide) (S56_0_ok _ _ _ t_0 t_1 t_2 (recovers u).1 aw rfl rfl rfl rfl H)
def C55_0 : Code := bodyOf f55
theorem C55_is : f55.body = some C55_0 := by kernel_rfl
def C55_1 : Code := cl C55_0
def R55_0 : Array Oper := regOps C55_1
def C55_2 : Code := cr C55_0
def C55_3 : Code := cl C55_2
def C55_4 : Code := cl C55_3
def R55_1 : Array Oper := regOps C55_4
def C55_5 : Code := cr C55_3
def C55_6 : Code := cl C55_5
def R55_2 : Array Oper := regOps C55_6
def C55_7 : Code := cr C55_5
def C55_8 : Code := cr C55_2
def C55_9 : Code := cl C55_8
def C55_10 : Code := cl C55_9
def R55_3 : Array Oper := regOps C55_10
def C55_11 : Code := cr C55_9
def C55_12 : Code := cl C55_11
def R55_4 : Array Oper := regOps C55_12
def C55_13 : Code := cr C55_11
def C55_14 : Code := cl C55_13
def R55_5 : Array Oper := regOps C55_14
def C55_15 : Code := cr C55_13
def C55_16 : Code := cr C55_8
def C55_17 : Code := cl C55_16
def R55_6 : Array Oper := regOps C55_17
def C55_18 : Code := cr C55_16
theorem R55_0_N : dstsOk 27 R55_0 = true := by decide +kernel
theorem E55_1 : C55_1 = .region 0 R55_0 false := rfl
theorem R55_1_N : dstsOk 27 R55_1 = true := by decide +kernel
theorem E55_4 : C55_4 = .region 1 R55_1 false := rfl
theorem R55_2_N : dstsOk 27 R55_2 = true := by decide +kernel
theorem E55_6 : C55_6 = .region 2 R55_2 false := rfl
theorem E55_7 : C55_7 = .skip := rfl
theorem E55_5 : C55_5 = .cond (.tmp 6) C55_6 C55_7 := rfl
theorem E55_3 : C55_3 = .seq C55_4 C55_5 := rfl
theorem R55_3_N : dstsOk 27 R55_3 = true := by decide +kernel
theorem E55_10 : C55_10 = .region 3 R55_3 false := rfl
theorem R55_4_N : dstsOk 27 R55_4 = true := by decide +kernel
theorem E55_12 : C55_12 = .region 4 R55_4 false := rfl
theorem R55_5_N : dstsOk 27 R55_5 = true := by decide +kernel
theorem E55_14 : C55_14 = .region 5 R55_5 false := rfl
theorem E55_15 : C55_15 = .skip := rfl
theorem E55_13 : C55_13 = .cond (.tmp 16) C55_14 C55_15 := rfl
theorem E55_11 : C55_11 = .seq C55_12 C55_13 := rfl
theorem E55_9 : C55_9 = .seq C55_10 C55_11 := rfl
theorem R55_6_N : dstsOk 27 R55_6 = true := by decide +kernel
theorem E55_17 : C55_17 = .region 6 R55_6 false := rfl
theorem E55_18 : C55_18 = .ret := rfl
theorem E55_16 : C55_16 = .seq C55_17 C55_18 := rfl
theorem E55_8 : C55_8 = .seq C55_9 C55_16 := rfl
theorem E55_2 : C55_2 = .seq C55_3 C55_8 := rfl
theorem E55_0 : C55_0 = .seq C55_1 C55_2 := rfl
def S55_1 (Q : Value → AW → Prop) (E : List PanicEntry → AW → Prop)  (s_0 : Value) (aw : AW) : Prop :=
  Q s_0 aw
def S55_0 (Q : Value → AW → Prop) (E : List PanicEntry → AW → Prop)  (s_0 : Value) (n_1 : Int) (aw : AW) : Prop :=
  cnd (decide (n_1 < 0)) (E [⟨(.iface 9 (.string (⟨#[99, 97, 110, 110, 111, 116, 32, 98, 101, 32, 110, 101, 103, 97, 116, 105, 118, 101]⟩ : ByteArray))), false, false⟩] aw) (scap s_0 fun n2 =>
  slen s_0 fun n9 =>
  cnd (decide (0 < (IntKind.i64.wrap (n_1 - (IntKind.i64.wrap (n2 - n9)))))) (scap s_0 fun n16 =>
  cutV aw 2 s_0 0 n16 fun v23 =>
  appZ aw 43 2 32 [.int .i64 0, (.slice none 0 0)] v23 (IntKind.i64.wrap (n_1 - (IntKind.i64.wrap (n2 - n9)))) fun v25 aw26 =>
  slen s_0 fun n41 =>
  cutV aw26 2 v25 0 n41 fun v47 =>
  S55_1 Q E  v47 aw26) (S55_1 Q E  s_0 aw))
theorem S55_1_ok (Q : Value → AW → Prop) (E : List PanicEntry → AW → Prop)  (ρ : Env) (s_0 : Value) (aw : AW) (h0 : ρ 0 = s_0) (H : S55_1 Q E  s_0 aw) :
    AGo prog 27 [.code C55_16] ρ [] aw (RR prog f55 27 sh55 Q E) := by
  unfold S55_1 at H
  refine ago_seqE E55_16 ?_
  refine ago_regE E55_17 (l := [0, 1]) rfl ?_
  refine lk (dt := some 26) R55_6_N rfl rfl rfl (opv_move rfl rfl h0) ?_
  refine lk (dt := some 4) R55_6_N rfl rfl rfl (opv_assign rfl rfl rfl) ?_
  refine aops_nil ?_
  exact ago_retE E55_18 (r := s_0) (ares_1 rfl (oneT rfl)) rfl H
theorem S55_0_ok (Q : Value → AW → Prop) (E : List PanicEntry → AW → Prop)  (ρ : Env) (s_0 : Value) (n_1 : Int) (aw : AW) (h0 : ρ 0 = s_0) (h1 : ρ 1 = .int .i64 n_1) (H : S55_0 Q E  s_0 n_1 aw) :
    AGo prog 27 [.code C55_0] ρ [] aw (RR prog f55 27 sh55 Q E) := by
  unfold S55_0 at H
  refine ago_seqE E55_0 ?_
  refine ago_regE E55_1 (l := [0]) rfl ?_
  refine lk (dt := some 4) R55_0_N rfl rfl rfl (opv_assign rfl rfl rfl) ?_
  refine aops_nil ?_
  refine ago_seqE E55_2 ?_
  refine ago_seqE E55_3 ?_
  refine ago_regE E55_4 (l := [0, 1]) rfl ?_
  refine lk (dt := some 5) R55_1_N rfl rfl rfl (opv_move rfl rfl h1) ?_
  refine lk (dt := some 6) R55_1_N rfl rfl rfl (opv_lt rfl rfl rfl rfl rfl) ?_
  refine aops_nil ?_
  refine ago_condE  E55_5 rfl rfl (fun hb1 => ?_) (fun hb1 => ?_)
  · replace H := cnd_t H hb1
    refine ago_regE E55_6 (l := [0, 1]) rfl ?_
    refine lk (dt := some 7) R55_2_N rfl rfl rfl (opv_mkIface rfl rfl underlying9 rfl rfl) ?_
    exact aops_panic R55_2_N rfl rfl (opp_panic rfl rfl rfl) ⟨rfl, H⟩
  · replace H := cnd_f H hb1
    refine ago_skipE E55_7 ?_
    refine ago_seqE E55_8 ?_
    refine ago_seqE E55_9 ?_
    refine ago_regE E55_10 (l := [0, 1, 2, 3, 4, 5, 6, 7]) rfl ?_
    refine lk (dt := some 8) R55_3_N rfl rfl rfl (opv_move rfl rfl h1) ?_
    refine lk (dt := some 9) R55_3_N rfl rfl rfl (opv_move rfl rfl h0) ?_
    obtain ⟨q3, l4, c5, n2, hv6, hc7, hn8, H⟩ := H
    refine lk (dt := some 10) R55_3_N rfl rfl rfl (ov_cap rfl rfl rfl underlying44 rfl hv6 hc7 hn8) ?_
    refine lk (dt := some 11) R55_3_N rfl rfl rfl (opv_move rfl rfl h0) ?_
    obtain ⟨q10, l11, c12, n9, hv13, hn14, H⟩ := H
    refine lk (dt := some 12) R55_3_N rfl rfl rfl (ov_len rfl rfl rfl underlying44 rfl hv13 hn14) ?_
    refine lk (dt := some 13) R55_3_N rfl rfl rfl (opv_sub rfl rfl rfl rfl rfl) ?_
    refine lk (dt := some 14) R55_3_N rfl rfl rfl (opv_sub rfl rfl rfl rfl rfl) ?_
    refine lk (dt := some 1) R55_3_N rfl rfl rfl (opv_assign rfl rfl rfl) ?_
    refine aops_nil ?_
    refine ago_seqE E55_11 ?_
    refine ago_regE E55_12 (l := [0, 1]) rfl ?_
    refine lk (dt := some 15) R55_4_N rfl rfl rfl (opv_move rfl rfl rfl) ?_
    refine lk (dt := some 16) R55_4_N rfl rfl rfl (opv_gt rfl rfl rfl rfl rfl) ?_
    refine aops_nil ?_
    refine ago_condE  E55_13 rfl rfl (fun hb15 => ?_) (fun hb15 => ?_)
    · replace H := cnd_t H hb15
      refine ago_cut (fun ρ => ρ 0 = s_0 ∧ ρ 1 = .int .i64 (IntKind.i64.wrap (n_1 - (IntKind.i64.wrap (n2 - n9)))) ∧ True) ⟨h0, rfl, trivial⟩ (fun ρ ⟨h0, h1, _⟩ => ?_)
      refine ago_regE E55_14 (l := [0, 1, 2, 3, 4, 5, 6, 7, 8, 9]) rfl ?_
      refine lk (dt := some 17) R55_5_N rfl rfl rfl (opv_move rfl rfl h0) ?_
      refine lk (dt := some 18) R55_5_N rfl rfl rfl (opv_move rfl rfl h0) ?_
      obtain ⟨q17, l18, c19, n16, hv20, hc21, hn22, H⟩ := H
      refine lk (dt := some 19) R55_5_N rfl rfl rfl (ov_cap rfl rfl rfl underlying44 rfl hv20 hc21 hn22) ?_
      obtain ⟨v23, hq24, H⟩ := H
      refine lk (dt := some 20) R55_5_N rfl rfl rfl (ov_cutV rfl rfl underlying44 sz43 rfl (bndN _ _ _) (bndS rfl) hq24) ?_
      refine lk (dt := some 21) R55_5_N rfl rfl rfl (opv_move rfl rfl h1) ?_
      obtain ⟨q27, q28, q29, q30, q31, v25, aw26, hq32, hq33, hq34, hq35, hq36, hq37, hq38, hq39, hq40, H⟩ := H
      refine lk (dt := some 22) R55_5_N rfl rfl rfl (ov_appZ rfl rfl rfl rfl underlying44 sz43 by43 underlying3 z43 rfl rfl rfl (by decide) (by decide) rfl rfl hq32 hq33 hq34 hq35 hq36 hq37 hq38 hq39 hq40) ?_
      refine lk (dt := some 23) R55_5_N rfl rfl rfl (opv_move rfl rfl h0) ?_
      obtain ⟨q42, l43, c44, n41, hv45, hn46, H⟩ := H
      refine lk (dt := some 24) R55_5_N rfl rfl rfl (ov_len rfl rfl rfl underlying44 rfl hv45 hn46) ?_
      obtain ⟨v47, hq48, H⟩ := H
      refine lk (dt := some 25) R55_5_N rfl rfl rfl (ov_cutV rfl rfl underlying44 sz43 rfl (bndN _ _ _) (bndS rfl) hq48) ?_
      refine lk (dt := some 0) R55_5_N rfl rfl rfl (opv_assign rfl rfl rfl) ?_
      refine aops_nil ?_
      exact S55_1_ok Q E  _ v47 aw26 rfl H
    · replace H := cnd_f H hb15
      refine ago_skipE E55_15 ?_
      exact S55_1_ok Q E  _ s_0 aw h0 H
theorem F55_ok {Q : Value → AW → Prop} {E : List PanicEntry → AW → Prop} (s_0 : Value) (n_1 : Int) (aw : AW) (H : S55_0 Q E s_0 n_1 aw) : CallP prog 55 [s_0, .int .i64 n_1] aw sh55 Q E :=
  callP_of func55 C55_is rfl (Nat.le_of_ble_eq_true rfl) (S55_0_ok Q E _ s_0 n_1 aw rfl rfl H)
end
end Go.Proofs.Tryd
