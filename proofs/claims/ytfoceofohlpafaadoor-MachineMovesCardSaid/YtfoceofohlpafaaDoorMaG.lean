/- Printed by a program of the prover: what the Go functions of this seat do, in steps. -/
import Derived.Test.YtfoceofohlpafaaDoorMaF
set_option linter.unusedSectionVars false
set_option linter.unusedSimpArgs false
set_option linter.unusedVariables false
namespace Go.Proofs.Tryd
open Go Go.Am Go.RowKit
set_option maxHeartbeats 4000000
set_option maxRecDepth 100000
noncomputable section
variable [SymE]
def C35_0 := bodyOf f35
theorem C35_is : f35.body = some C35_0 := by kernel_rfl
def C35_1 := cl C35_0
def R35_0 := regOps C35_1
def C35_2 := cr C35_0
def C35_3 := cl C35_2
def R35_1 := regOps C35_3
def C35_4 := cr C35_2
def C35_5 := cl C35_4
def C35_6 := cl C35_5
def C35_7 := cl C35_6
def C35_8 := cl C35_7
def C35_9 := cl C35_8
def R35_2 := regOps C35_9
def C35_10 := cr C35_8
def C35_11 := cl C35_10
def C35_12 := cr C35_10
def C35_13 := cr C35_7
def C35_14 := cl C35_13
def R35_3 := regOps C35_14
def C35_15 := cr C35_4
def C35_16 := cl C35_15
def R35_4 := regOps C35_16
def C35_17 := cr C35_15
theorem R35_0_N : dstsOk 14 R35_0 = true := by decide +kernel
theorem R35_1_N : dstsOk 14 R35_1 = true := by decide +kernel
theorem R35_2_N : dstsOk 14 R35_2 = true := by decide +kernel
theorem R35_3_N : dstsOk 14 R35_3 = true := by decide +kernel
theorem R35_4_N : dstsOk 14 R35_4 = true := by decide +kernel
theorem R35_4_O : linOk R35_4 [0] [(1, [0], []), (2, [], [])] = true := by decide +kernel
def DK35 (Q : (Bool × Int × Int × ByteArray × ByteArray × Value × Int) → AW → Prop) (E : List PanicEntry → AW → Prop) (m_1 : Value) (again_2 : Value) (r_3 : Value) (u : ADone) (aw : AW) : Prop :=
  DefK prog 56 [r_3, m_1, again_2] u aw (fun aw => ptr again_2 fun b73 i74 => gB aw b73 i74 fun c76 => ptr r_3 fun b78 i79 => gI .i64 aw b78 i79 fun c81 => gI .u64 aw b78 (i79 + 1) fun c82 => gS aw b78 (i79 + 2) fun c83 => gS aw b78 (i79 + 3) fun c84 => gV aw b78 (i79 + 4) fun c85 => gI .i64 aw b78 (i79 + 5) fun c86 => Q (c76, c81, c82, c83, c84, c85, c86) aw) E
theorem DK35_ok (Q : (Bool × Int × Int × ByteArray × ByteArray × Value × Int) → AW → Prop) (E : List PanicEntry → AW → Prop) (ρ : Env) (m_1 : Value) (again_2 : Value) (r_3 : Value) (u : ADone) (aw : AW) (h1 : ρ 1 = m_1) (h2 : ρ 2 = again_2) (h3 : ρ 3 = r_3) (H : DK35 Q E m_1 again_2 r_3 u aw) : RD prog f35 14 sh35 Q E u ρ [⟨.fn (.func 56) #[r_3, m_1, again_2], #[]⟩] aw :=
  aleaves_one is56 rfl H fun aw H => by
    obtain ⟨b73, i74, hp75, c76, hg77, H⟩ := H
    obtain ⟨b78, i79, hp80, c81, hg87, c82, hg88, c83, hg89, c84, hg90, c85, hg91, c86, hg92, H⟩ := H
    exact ⟨(c76, c81, c82, c83, c84, c85, c86), (ares_2 rfl (one1 h2 hp75 underlying4 rfl hg77) (oneN h3 hp80 underlying29 rfl sz29 (getN_cons hg87 (getN_cons hg88 (getN_cons hg89 (getN_cons hg90 (getN_cons hg91 (getN_cons hg92 getN_nil)))))))), H⟩
def S35_1s (Q : (Bool × Int × Int × ByteArray × ByteArray × Value × Int) → AW → Prop) (E : List PanicEntry → AW → Prop)  (nx1 : Value → Value → Value → AW → Prop) (m_1 : Value) (again_2 : Value) (r_3 : Value) (aw : AW) : Prop :=
  ldV aw m_1 fun x4 =>
  nck x4 (fldA x4 4 fun p7 =>
  ldV aw p7 fun x15 =>
  slen x15 fun n17 =>
  cnd (decide (0 < n17)) (ldV aw m_1 fun x27 =>
  CallP prog 58 [x27] aw sh58 (fun r29 aw30 =>
  nx1 m_1 again_2 r_3 aw30) (fun ch aw => DK35 Q E m_1 again_2 r_3 (.panic ch) aw)) (ptr r_3 fun b31 i32 =>
  gI .i64 aw b31 i32 fun c34 =>
  gI .u64 aw b31 (i32 + 1) fun c35 =>
  gS aw b31 (i32 + 2) fun c36 =>
  gS aw b31 (i32 + 3) fun c37 =>
  gV aw b31 (i32 + 4) fun c38 =>
  gI .i64 aw b31 (i32 + 5) fun c39 =>
  st aw again_2 [.bool false] fun aw46 =>
  aw46.get b31 i32 = some (.int .i64 c34) ∧ aw46.get b31 (i32 + 1) = some (.int .u64 c35) ∧ aw46.get b31 (i32 + 2) = some (.string c36) ∧ aw46.get b31 (i32 + 3) = some (.string c37) ∧ aw46.get b31 (i32 + 4) = some (c38) ∧ aw46.get b31 (i32 + 5) = some (.int .i64 c39) ∧ st aw46 r_3 [.int .i64 c34, .int .u64 c35, .string c36, .string c37, c38, .int .i64 c39] fun aw53 =>
  DK35 Q E m_1 again_2 r_3 .ret aw53))
def S35_1 (Q : (Bool × Int × Int × ByteArray × ByteArray × Value × Int) → AW → Prop) (E : List PanicEntry → AW → Prop)  : Nat → Value → Value → Value → AW → Prop
  | 0 => fun _ _ _ _ => False
  | n + 1 => S35_1s Q E  (S35_1 Q E  n)
def S35_0 (Q : (Bool × Int × Int × ByteArray × ByteArray × Value × Int) → AW → Prop) (E : List PanicEntry → AW → Prop)  (m_0 : Value) (aw : AW) : Prop :=
  one m_0 = true ∧ alc aw [m_0] 30 0 fun p60 aw61 =>
  alc aw61 [.bool false] 4 0 fun p65 aw66 =>
  alc aw66 [.int .i64 0, .int .u64 0, .string (⟨#[]⟩ : ByteArray), .string (⟨#[]⟩ : ByteArray), (.slice none 0 0), .int .i64 0] 29 0 fun p69 aw70 =>
  ∃ n, S35_1 Q E  n p60 p65 p69 aw70
theorem S35_1s_ok (Q : (Bool × Int × Int × ByteArray × ByteArray × Value × Int) → AW → Prop) (E : List PanicEntry → AW → Prop)  (nx1 : Value → Value → Value → AW → Prop) (L1 : ∀ (ρ : Env) (m_1 : Value) (again_2 : Value) (r_3 : Value) (aw : AW) (h1 : ρ 1 = m_1) (h2 : ρ 2 = again_2) (h3 : ρ 3 = r_3), nx1 m_1 again_2 r_3 aw → AGo prog 14 [.code C35_7, .inLoop C35_7, .inBlock 0, .code C35_15] ρ [⟨.fn (.func 56) #[r_3, m_1, again_2], #[]⟩] aw (RD prog f35 14 sh35 Q E)) (ρ : Env) (m_1 : Value) (again_2 : Value) (r_3 : Value) (aw : AW) (h1 : ρ 1 = m_1) (h2 : ρ 2 = again_2) (h3 : ρ 3 = r_3) (H : S35_1s Q E  nx1 m_1 again_2 r_3 aw) :
    AGo prog 14 [.code C35_7, .inLoop C35_7, .inBlock 0, .code C35_15] ρ [⟨.fn (.func 56) #[r_3, m_1, again_2], #[]⟩] aw (RD prog f35 14 sh35 Q E) := by
  unfold S35_1s at H
  refine ago_seqE (rfl : C35_7 = .seq C35_8 C35_13) ?_
  refine ago_seqE (rfl : C35_8 = .seq C35_9 C35_10) ?_
  refine ago_regE (rfl : C35_9 = .region 2 R35_2 false) (l := [0, 1, 2, 3, 4, 5]) rfl ?_
  obtain ⟨b1, i2, x4, hp3, hg5, H⟩ := H
  refine lj 5 R35_2_N rfl rfl rfl (ov_ldV rfl underlying30 rfl rfl h1 hp3 hg5) ?_
  obtain ⟨hp6, H⟩ := H
  refine lj 6 R35_2_N rfl rfl rfl (ov_nck rfl rfl rfl hp6) ?_
  obtain ⟨b8, i9, p7, hp10, hv11, H⟩ := H
  refine lj 7 R35_2_N rfl rfl rfl (ov_fldA rfl rfl underlying77 rfl sz70 (by decide) rfl hp10 rfl hv11) ?_
  obtain ⟨b12, i13, x15, hp14, hg16, H⟩ := H
  refine lj 8 R35_2_N rfl rfl rfl (ov_ldV rfl underlying70 rfl rfl rfl hp14 hg16) ?_
  obtain ⟨q18, l19, c20, n17, hv21, hn22, H⟩ := H
  refine lj 9 R35_2_N rfl rfl rfl (ov_len rfl rfl rfl underlying70 rfl hv21 hn22) ?_
  refine lj 10 R35_2_N rfl rfl rfl (opv_gt rfl rfl rfl rfl rfl) ?_
  refine aops_nil ?_
  refine ago_condE  (rfl : C35_10 = .cond (.tmp 10) C35_11 C35_12) rfl rfl (fun hb23 => ?_) (fun hb23 => ?_)
  · replace H := cnd_t H hb23
    refine ago_skipE (rfl : C35_11 = .skip) ?_
    refine ago_blockE (rfl : C35_13 = .block 1 C35_14) ?_
    refine ago_regE (rfl : C35_14 = .region 3 R35_3 false) (l := [0, 1]) rfl ?_
    obtain ⟨b24, i25, x27, hp26, hg28, H⟩ := H
    refine lj 11 R35_3_N rfl rfl rfl (ov_ldV rfl underlying30 rfl rfl h1 hp26 hg28) ?_
    refine lc 12 R35_3_N rfl rfl rfl (opc_of rfl rfl is58 (ma_cons rfl rfl)) H (fun _ _ h => (DK35_ok Q E _ m_1 again_2 r_3 _ _ h1 h2 h3 h)) fun r29 aw30 H => ?_
    refine aops_nil ?_
    refine ago_inBlock ?_
    refine ago_inLoop ?_
    exact L1 _ m_1 again_2 r_3 aw30 h1 h2 h3 H
  replace H := cnd_f H hb23
  refine ago_exitE (rfl : C35_12 = .exit 0) rfl ?_
  refine ago_seqE (rfl : C35_15 = .seq C35_16 C35_17) ?_
  obtain ⟨b31, i32, hp33, c34, hg40, c35, hg41, c36, hg42, c37, hg43, c38, hg44, c39, hg45, H⟩ := H
  refine ago_drawH (p := [0]) (tl := [(1, [0], []), (2, [], [])]) (hv := [(0, Value.agg #[.int .i64 c34, .int .u64 c35, .string c36, .string c37, c38, .int .i64 c39])]) (rfl : C35_16 = .region 4 R35_4 true) mixed R35_4_N R35_4_O rfl (pv_cons rfl (pv_nil _))
    (fc 13 (.agg #[.int .i64 c34, .int .u64 c35, .string c36, .string c37, c38, .int .i64 c39]) (hd_v rfl fun ρ hρ => ⟨rfl, ov_ldN rfl underlying29 rfl sz29 rfl ((hρ 3 (lmem rfl)).trans h3) hp33 (getN_cons hg40 (getN_cons hg41 (getN_cons hg42 (getN_cons hg43 (getN_cons hg44 (getN_cons hg45 getN_nil))))))⟩) rfl rfl
    ffn) ?_
  obtain ⟨b47, i48, aw46, hp49, hw50, ho51, ha52, H⟩ := H
  refine lt_val (dt := none) (v := undef) rfl rfl (fun ρ hρ => ⟨rfl, ov_st rfl rfl rfl ((hρ 2 (lmem rfl)).trans h2) rfl rfl sz4 hp49 hw50 ho51 ha52⟩) ?_
  obtain ⟨hg40, H⟩ := H
  obtain ⟨hg41, H⟩ := H
  obtain ⟨hg42, H⟩ := H
  obtain ⟨hg43, H⟩ := H
  obtain ⟨hg44, H⟩ := H
  obtain ⟨hg45, H⟩ := H
  refine lt_next (l := [0]) (hv := []) rfl rfl (pv_nil _)
    (fc 13 (.agg #[.int .i64 c34, .int .u64 c35, .string c36, .string c37, c38, .int .i64 c39]) (hd_v rfl fun ρ hρ => ⟨rfl, ov_ldN rfl underlying29 rfl sz29 rfl ((hρ 3 (lmem rfl)).trans h3) hp33 (getN_cons hg40 (getN_cons hg41 (getN_cons hg42 (getN_cons hg43 (getN_cons hg44 (getN_cons hg45 getN_nil))))))⟩) rfl rfl
    ffn) ?_
  obtain ⟨b54, i55, aw53, hp56, hw57, ho58, ha59, H⟩ := H
  refine lt_val (dt := none) (v := undef) rfl rfl (fun ρ hρ => ⟨rfl, ov_st rfl rfl rfl ((hρ 3 (lmem rfl)).trans h3) ((hρ 13 (lmem rfl)).trans rfl) rfl sz29 hp56 hw57 ho58 ha59⟩) ?_
  refine lt_next (l := []) (hv := []) rfl rfl (pv_nil _)
    ffn ?_
  refine lt_end ?_
  exact ago_retD (rfl : C35_17 = .ret) (DK35_ok Q E _ m_1 again_2 r_3 _ _ h1 h2 h3 H)
theorem S35_1_ok (Q : (Bool × Int × Int × ByteArray × ByteArray × Value × Int) → AW → Prop) (E : List PanicEntry → AW → Prop)  : ∀ (n : Nat) (ρ : Env) (m_1 : Value) (again_2 : Value) (r_3 : Value) (aw : AW) (h1 : ρ 1 = m_1) (h2 : ρ 2 = again_2) (h3 : ρ 3 = r_3), S35_1 Q E  n m_1 again_2 r_3 aw →
    AGo prog 14 [.code C35_7, .inLoop C35_7, .inBlock 0, .code C35_15] ρ [⟨.fn (.func 56) #[r_3, m_1, again_2], #[]⟩] aw (RD prog f35 14 sh35 Q E)
  | 0, _, _, _, _, _, _, _, _ => fun H => H.elim
  | n + 1, ρ, m_1, again_2, r_3, aw, h1, h2, h3 => fun H => S35_1s_ok Q E  _ (S35_1_ok Q E  n) ρ m_1 again_2 r_3 aw h1 h2 h3 H
theorem S35_0_ok (Q : (Bool × Int × Int × ByteArray × ByteArray × Value × Int) → AW → Prop) (E : List PanicEntry → AW → Prop)  (ρ : Env) (m_0 : Value) (aw : AW) (h0 : ρ 0 = m_0) (H : S35_0 Q E  m_0 aw) :
    AGo prog 14 [.code C35_0] ρ [] aw (RD prog f35 14 sh35 Q E) := by
  unfold S35_0 at H
  refine ago_seqE (rfl : C35_0 = .seq C35_1 C35_2) ?_
  refine ago_regE (rfl : C35_1 = .region 0 R35_0 false) (l := [0, 1, 2]) rfl ?_
  obtain ⟨h164, H⟩ := H
  obtain ⟨p60, aw61, hp62, ha63, H⟩ := H
  refine lj 1 R35_0_N rfl rfl rfl (ov_box rfl rfl h0 (cells_one h164) hp62 ha63) ?_
  obtain ⟨p65, aw66, hp67, ha68, H⟩ := H
  refine lj 2 R35_0_N rfl rfl rfl (ov_alloc rfl z4 rfl rfl hp67 ha68) ?_
  obtain ⟨p69, aw70, hp71, ha72, H⟩ := H
  refine lj 3 R35_0_N rfl rfl rfl (ov_alloc rfl z29 rfl rfl hp71 ha72) ?_
  refine aops_nil ?_
  refine ago_seqE (rfl : C35_2 = .seq C35_3 C35_4) ?_
  refine ago_regE (rfl : C35_3 = .region 1 R35_1 false) (l := [0, 1]) rfl ?_
  refine lj 4 R35_1_N rfl rfl rfl (ov_mkF rfl rfl rfl rfl (ma_cons rfl (ma_cons rfl (ma_cons rfl rfl)))) ?_
  refine lk_defer (dt := none) R35_1_N rfl rfl rfl rfl rfl rfl rfl rfl rfl ?_
  refine aops_nil ?_
  refine ago_seqE (rfl : C35_4 = .seq C35_5 C35_15) ?_
  refine ago_blockE (rfl : C35_5 = .block 0 C35_6) ?_
  refine ago_loopE (rfl : C35_6 = .loop C35_7) ?_
  obtain ⟨n, H⟩ := H
  exact S35_1_ok Q E  n _ p60 p65 p69 aw70 rfl rfl rfl H
theorem F35_ok {Q : (Bool × Int × Int × ByteArray × ByteArray × Value × Int) → AW → Prop} {E : List PanicEntry → AW → Prop} (m_0 : Value) (aw : AW) (H : S35_0 Q E m_0 aw) : CallP prog 35 [m_0] aw sh35 Q E :=
  callP_of_d func35 C35_is rfl (Nat.le_of_ble_eq_true rfl) (S35_0_ok Q E _ m_0 aw rfl H)
def C56_0 := bodyOf f56
theorem C56_is : f56.body = some C56_0 := by kernel_rfl
def C56_1 := cl C56_0
def R56_0 := regOps C56_1
def C56_2 := cr C56_0
def C56_3 := cl C56_2
def C56_4 := cl C56_3
def R56_3 := regOps C56_4
def C56_5 := cr C56_3
def C56_6 := cl C56_5
def R56_4 := regOps C56_6
def C56_7 := cr C56_5
def C56_8 := cl C56_7
def R56_5 := regOps C56_8
def C56_9 := cr C56_7
def C56_10 := cl C56_9
def C56_11 := cl C56_10
def R56_6 := regOps C56_11
def C56_12 := cr C56_10
def R56_7 := regOps C56_12
def C56_13 := cr C56_9
def C56_14 := cl C56_13
def R56_8 := regOps C56_14
def C56_15 := cr C56_13
def C56_16 := cl C56_15
def C56_17 := cl C56_16
def R56_9 := regOps C56_17
def C56_18 := cr C56_16
def R56_10 := regOps C56_18
def C56_19 := cr C56_15
def C56_20 := cl C56_19
def R56_1 := regOps C56_20
def C56_21 := cr C56_19
def R56_2 := regOps C56_21
theorem R56_3_N : dstsOk 26 R56_3 = true := by decide +kernel
theorem R56_4_N : dstsOk 26 R56_4 = true := by decide +kernel
theorem R56_5_N : dstsOk 26 R56_5 = true := by decide +kernel
theorem R56_6_N : dstsOk 26 R56_6 = true := by decide +kernel
theorem R56_7_N : dstsOk 26 R56_7 = true := by decide +kernel
theorem R56_8_N : dstsOk 26 R56_8 = true := by decide +kernel
theorem R56_9_N : dstsOk 26 R56_9 = true := by decide +kernel
theorem R56_10_N : dstsOk 26 R56_10 = true := by decide +kernel
theorem R56_1_N : dstsOk 26 R56_1 = true := by decide +kernel
theorem R56_2_N : dstsOk 26 R56_2 = true := by decide +kernel
def S56_0 (Q : Unit → AW → Prop) (E : List PanicEntry → AW → Prop)  (t_0 : Value) (t_1 : Value) (t_2 : Value) (t_7 : Value) (aw : AW) : Prop :=
  nilB (.interface #[]) t_7 (.nilIface ) fun q1 =>
  cnd q1 (Q () aw) (tyQ 114 t_7 (fun v5 => ∃ c8, v5 = .agg #[.int .i64 c8] ∧ alc aw [.int .i64 0] 114 0 fun p10 aw11 =>
  st aw11 p10 [.int .i64 c8] fun aw14 =>
  fldA p10 0 fun p21 =>
  ldI .i64 aw14 p21 fun x29 =>
  st aw14 t_0 [.int .i64 x29, .int .u64 0, .string (⟨#[]⟩ : ByteArray), .string (⟨#[]⟩ : ByteArray), (.slice none 0 0), .int .i64 0] fun aw31 =>
  Q () aw31) (tyQ 116 t_7 (fun v39 => ∃ c42, v39 = .agg #[.string c42] ∧ alc aw [.string (⟨#[]⟩ : ByteArray)] 116 0 fun p44 aw45 =>
  st aw45 p44 [.string c42] fun aw48 =>
  ldV aw48 t_1 fun x58 =>
  fldA p44 0 fun p60 =>
  ldS aw48 p60 fun x68 =>
  CallP prog 57 [x58, .string x68] aw48 sh57 (fun r70 aw71 =>
  st aw71 t_2 [.bool r70.1] fun aw72 =>
  st aw72 t_0 [.int .i64 r70.2.1, .int .u64 r70.2.2.1, .string r70.2.2.2.1, .string r70.2.2.2.2.1, r70.2.2.2.2.2.1, .int .i64 r70.2.2.2.2.2.2] fun aw79 =>
  Q () aw79) E) (∃ u87 z88, t_7 = .iface u87 z88 ∧ E [⟨.iface u87 z88, false, false⟩] aw)))
theorem S56_0_ok (Q : Unit → AW → Prop) (E : List PanicEntry → AW → Prop)  (ρ : Env) (t_0 : Value) (t_1 : Value) (t_2 : Value) (t_7 : Value) (aw : AW) (h0 : ρ 0 = t_0) (h1 : ρ 1 = t_1) (h2 : ρ 2 = t_2) (h7 : ρ 7 = t_7) (H : S56_0 Q E  t_0 t_1 t_2 t_7 aw) :
    AGo prog 26 [.inRegion R56_0 [], .code C56_2] ρ [] aw (RR prog f56 26 sh56 Q E) := by
  unfold S56_0 at H
  refine ago_inRegion ?_
  refine aops_nil ?_
  refine ago_blockE (rfl : C56_2 = .block 0 C56_3) ?_
  refine ago_seqE (rfl : C56_3 = .seq C56_4 C56_5) ?_
  refine ago_regE (rfl : C56_4 = .region 3 R56_3 false) (l := [0]) rfl ?_
  obtain ⟨q1, hf2, hq3, H⟩ := H
  refine lj 9 R56_3_N rfl rfl rfl (ov_eqNil rfl rfl underlying20 h7 hf2 hq3) ?_
  refine aops_nil ?_
  refine ago_condE  (rfl : C56_5 = .cond (.tmp 9) C56_6 C56_7) rfl rfl (fun hb4 => ?_) (fun hb4 => ?_)
  · replace H := cnd_t H hb4
    refine ago_regE (rfl : C56_6 = .region 4 R56_4 false) (l := [0]) rfl ?_
    refine lj 3 R56_4_N rfl rfl rfl (opv_assign rfl rfl h7) ?_
    refine aops_nil ?_
    refine ago_inBlock ?_
    exact ago_nilR (r := ()) (ares_0 rfl ) rfl H
  replace H := cnd_f H hb4
  refine ago_seqE (rfl : C56_7 = .seq C56_8 C56_9) ?_
  refine ago_regE (rfl : C56_8 = .region 5 R56_5 false) (l := [0, 1, 2]) rfl ?_
  rcases H with ⟨v5, hu6, H⟩ | ⟨hu6, H⟩
  · skip
    obtain ⟨c8, hv7, H⟩ := H
    refine lj 10 R56_5_N rfl rfl rfl (ov_tyY rfl rfl underlying114 rfl h7 (hu6.trans (congrArg (Value.iface 114) hv7))) ?_
    refine lj 11 R56_5_N rfl rfl rfl (opv_extract rfl rfl rfl rfl) ?_
    refine lj 12 R56_5_N rfl rfl rfl (opv_extract rfl rfl rfl rfl) ?_
    refine aops_nil ?_
    refine ago_condE  (rfl : C56_9 = .cond (.tmp 11) C56_10 C56_13) rfl rfl (fun h => ?_) (fun h => tf h)
    refine ago_seqE (rfl : C56_10 = .seq C56_11 C56_12) ?_
    refine ago_regE (rfl : C56_11 = .region 6 R56_6 false) (l := [0, 1]) rfl ?_
    obtain ⟨p10, aw11, hp12, ha13, H⟩ := H
    refine lj 4 R56_6_N rfl rfl rfl (ov_alloc rfl z114 rfl rfl hp12 ha13) ?_
    obtain ⟨b15, i16, aw14, hp17, hw18, ho19, ha20, H⟩ := H
    refine lk (dt := none) R56_6_N rfl rfl rfl (ov_st rfl rfl rfl rfl rfl rfl sz114 hp17 hw18 ho19 ha20) ?_
    refine aops_nil ?_
    refine ago_regE (rfl : C56_12 = .region 7 R56_7 false) (l := [0, 1, 2, 3]) rfl ?_
    obtain ⟨b22, i23, p21, hp24, hv25, H⟩ := H
    refine lj 13 R56_7_N rfl rfl rfl (ov_fldA rfl rfl underlying114 rfl sz24 (by decide) rfl hp24 rfl hv25) ?_
    obtain ⟨b26, i27, x29, hp28, hg30, H⟩ := H
    refine lj 14 R56_7_N rfl rfl rfl (ov_ldI rfl underlying24 rfl rfl hp28 hg30) ?_
    refine lj 15 R56_7_N rfl rfl rfl (ov_bld (r := [.int .i64 x29, .int .u64 0, .string (⟨#[]⟩ : ByteArray), .string (⟨#[]⟩ : ByteArray), (.slice none 0 0), .int .i64 0]) rfl rfl bo29 (mp_cons rfl rfl) (fillP rfl rfl rfl rfl (fillN rfl))) ?_
    obtain ⟨b32, i33, aw31, hp34, hw35, ho36, ha37, H⟩ := H
    refine lk (dt := none) R56_7_N rfl rfl rfl (ov_st rfl rfl rfl h0 rfl rfl sz29 hp34 hw35 ho36 ha37) ?_
    refine aops_nil ?_
    refine ago_inBlock ?_
    exact ago_nilR (r := ()) (ares_0 rfl ) rfl H
  · skip
    refine lj 10 R56_5_N rfl rfl rfl (ov_tyN rfl rfl underlying114 rfl z114 rfl h7 hu6) ?_
    refine lj 11 R56_5_N rfl rfl rfl (opv_extract rfl rfl rfl rfl) ?_
    refine lj 12 R56_5_N rfl rfl rfl (opv_extract rfl rfl rfl rfl) ?_
    refine aops_nil ?_
    refine ago_condE  (rfl : C56_9 = .cond (.tmp 11) C56_10 C56_13) rfl rfl (fun h => ft h) (fun h => ?_)
    refine ago_seqE (rfl : C56_13 = .seq C56_14 C56_15) ?_
    refine ago_regE (rfl : C56_14 = .region 8 R56_8 false) (l := [0, 1, 2]) rfl ?_
    rcases H with ⟨v39, hu40, H⟩ | ⟨hu40, H⟩
    · skip
      obtain ⟨c42, hv41, H⟩ := H
      refine lj 16 R56_8_N rfl rfl rfl (ov_tyY rfl rfl underlying116 rfl h7 (hu40.trans (congrArg (Value.iface 116) hv41))) ?_
      refine lj 17 R56_8_N rfl rfl rfl (opv_extract rfl rfl rfl rfl) ?_
      refine lj 18 R56_8_N rfl rfl rfl (opv_extract rfl rfl rfl rfl) ?_
      refine aops_nil ?_
      refine ago_condE  (rfl : C56_15 = .cond (.tmp 17) C56_16 C56_19) rfl rfl (fun h => ?_) (fun h => tf h)
      refine ago_seqE (rfl : C56_16 = .seq C56_17 C56_18) ?_
      refine ago_regE (rfl : C56_17 = .region 9 R56_9 false) (l := [0, 1]) rfl ?_
      obtain ⟨p44, aw45, hp46, ha47, H⟩ := H
      refine lj 5 R56_9_N rfl rfl rfl (ov_alloc rfl z116 rfl rfl hp46 ha47) ?_
      obtain ⟨b49, i50, aw48, hp51, hw52, ho53, ha54, H⟩ := H
      refine lk (dt := none) R56_9_N rfl rfl rfl (ov_st rfl rfl rfl rfl rfl rfl sz116 hp51 hw52 ho53 ha54) ?_
      refine aops_nil ?_
      refine ago_regE (rfl : C56_18 = .region 10 R56_10 false) (l := [0, 1, 2, 3, 4, 5, 6, 7, 8]) rfl ?_
      obtain ⟨b55, i56, x58, hp57, hg59, H⟩ := H
      refine lj 20 R56_10_N rfl rfl rfl (ov_ldV rfl underlying30 rfl rfl h1 hp57 hg59) ?_
      obtain ⟨b61, i62, p60, hp63, hv64, H⟩ := H
      refine lj 21 R56_10_N rfl rfl rfl (ov_fldA rfl rfl underlying116 rfl sz9 (by decide) rfl hp63 rfl hv64) ?_
      obtain ⟨b65, i66, x68, hp67, hg69, H⟩ := H
      refine lj 22 R56_10_N rfl rfl rfl (ov_ldS rfl underlying9 rfl rfl hp67 hg69) ?_
      refine lc 23 R56_10_N rfl rfl rfl (opc_of rfl rfl is57 (ma_cons rfl (ma_cons rfl rfl))) H (fun _ _ h => ⟨rfl, h⟩) fun r70 aw71 H => ?_
      refine lj 19 R56_10_N rfl rfl rfl (opv_move rfl rfl rfl) ?_
      refine lj 24 R56_10_N rfl rfl rfl (opv_extract rfl rfl rfl rfl) ?_
      refine lj 25 R56_10_N rfl rfl rfl (opv_extract rfl rfl rfl rfl) ?_
      obtain ⟨b73, i74, aw72, hp75, hw76, ho77, ha78, H⟩ := H
      refine lk (dt := none) R56_10_N rfl rfl rfl (ov_st rfl rfl rfl h2 rfl rfl sz4 hp75 hw76 ho77 ha78) ?_
      obtain ⟨b80, i81, aw79, hp82, hw83, ho84, ha85, H⟩ := H
      refine lk (dt := none) R56_10_N rfl rfl rfl (ov_st rfl rfl rfl h0 rfl rfl sz29 hp82 hw83 ho84 ha85) ?_
      refine aops_nil ?_
      refine ago_inBlock ?_
      exact ago_nilR (r := ()) (ares_0 rfl ) rfl H
    · skip
      refine lj 16 R56_8_N rfl rfl rfl (ov_tyN rfl rfl underlying116 rfl z116 rfl h7 hu40) ?_
      refine lj 17 R56_8_N rfl rfl rfl (opv_extract rfl rfl rfl rfl) ?_
      refine lj 18 R56_8_N rfl rfl rfl (opv_extract rfl rfl rfl rfl) ?_
      refine aops_nil ?_
      refine ago_condE  (rfl : C56_15 = .cond (.tmp 17) C56_16 C56_19) rfl rfl (fun h => ft h) (fun h => ?_)
      refine ago_seqE (rfl : C56_19 = .seq C56_20 C56_21) ?_
      refine ago_regE (rfl : C56_20 = .region 1 R56_1 false) (l := [0]) rfl ?_
      refine lj 6 R56_1_N rfl rfl rfl (opv_assign rfl rfl h7) ?_
      refine aops_nil ?_
      refine ago_regE (rfl : C56_21 = .region 2 R56_2 false) (l := [0, 1]) rfl ?_
      refine lj 8 R56_2_N rfl rfl rfl (opv_move rfl rfl rfl) ?_
      obtain ⟨u87, z88, hz89, H⟩ := H
      exact aops_panic R56_2_N rfl rfl (opp_panic rfl rfl (rfl.trans hz89)) ⟨rfl, H⟩
theorem F56_okD {K : ADone → AW → Prop} {E : List PanicEntry → ADone → AW → Prop} (t_0 : Value) (t_1 : Value) (t_2 : Value) (u : ADone) (aw : AW) (H : S56_0 (fun _ aw => K (recovers u).2 aw) (fun ch aw => E ch (recovers u).2 aw) t_0 t_1 t_2 (recovers u).1 aw) : DefP prog 56 [t_0, t_1, t_2] u aw K E :=
  defP_of (dt := some 7) func56 C56_is rfl (Nat.le_of_ble_eq_true rfl) (.seq (.refl _)) rfl rfl rfl rfl rfl (fun d h => by injection h with h; subst h; decide) (S56_0_ok _ _ _ t_0 t_1 t_2 (recovers u).1 aw rfl rfl rfl rfl H)
def C55_0 := bodyOf f55
theorem C55_is : f55.body = some C55_0 := by kernel_rfl
def C55_1 := cl C55_0
def R55_0 := regOps C55_1
def C55_2 := cr C55_0
def C55_3 := cl C55_2
def C55_4 := cl C55_3
def R55_1 := regOps C55_4
def C55_5 := cr C55_3
def C55_6 := cl C55_5
def R55_2 := regOps C55_6
def C55_7 := cr C55_5
def C55_8 := cr C55_2
def C55_9 := cl C55_8
def C55_10 := cl C55_9
def R55_3 := regOps C55_10
def C55_11 := cr C55_9
def C55_12 := cl C55_11
def R55_4 := regOps C55_12
def C55_13 := cr C55_11
def C55_14 := cl C55_13
def R55_5 := regOps C55_14
def C55_15 := cr C55_13
def C55_16 := cr C55_8
def C55_17 := cl C55_16
def R55_6 := regOps C55_17
def C55_18 := cr C55_16
theorem R55_0_N : dstsOk 27 R55_0 = true := by decide +kernel
theorem R55_1_N : dstsOk 27 R55_1 = true := by decide +kernel
theorem R55_2_N : dstsOk 27 R55_2 = true := by decide +kernel
theorem R55_3_N : dstsOk 27 R55_3 = true := by decide +kernel
theorem R55_4_N : dstsOk 27 R55_4 = true := by decide +kernel
theorem R55_5_N : dstsOk 27 R55_5 = true := by decide +kernel
theorem R55_6_N : dstsOk 27 R55_6 = true := by decide +kernel
def S55_1 (Q : Value → AW → Prop) (E : List PanicEntry → AW → Prop)  (s_0 : Value) (aw : AW) : Prop :=
  Q s_0 aw
def S55_0 (Q : Value → AW → Prop) (E : List PanicEntry → AW → Prop)  (s_0 : Value) (n_1 : Int) (aw : AW) : Prop :=
  cnd (decide (n_1 < 0)) (E [⟨(.iface 9 (.string (⟨#[99, 97, 110, 110, 111, 116, 32, 98, 101, 32, 110, 101, 103, 97, 116, 105, 118, 101]⟩ : ByteArray))), false, false⟩] aw) (scap s_0 fun n2 =>
  slen s_0 fun n9 =>
  cnd (decide (0 < (IntKind.i64.wrap (n_1 - (IntKind.i64.wrap (n2 - n9)))))) (scap s_0 fun n16 =>
  cutV aw 2 s_0 0 n16 fun v23 =>
  appZ aw 43 2 32 [.int .i64 0, (.slice none 0 0)] v23 (IntKind.i64.wrap (n_1 - (IntKind.i64.wrap (n2 - n9)))) fun v25 aw26 =>
  slen s_0 fun n41 =>
  cutV aw26 2 v25 0 n41 fun v47 =>
  S55_1 Q E  v47 aw26) (S55_1 Q E  s_0 aw))
theorem S55_1_ok (Q : Value → AW → Prop) (E : List PanicEntry → AW → Prop)  (ρ : Env) (s_0 : Value) (aw : AW) (h0 : ρ 0 = s_0) (H : S55_1 Q E  s_0 aw) :
    AGo prog 27 [.code C55_16] ρ [] aw (RR prog f55 27 sh55 Q E) := by
  unfold S55_1 at H
  refine ago_seqE (rfl : C55_16 = .seq C55_17 C55_18) ?_
  refine ago_regE (rfl : C55_17 = .region 6 R55_6 false) (l := [0, 1]) rfl ?_
  refine lj 26 R55_6_N rfl rfl rfl (opv_move rfl rfl h0) ?_
  refine lj 4 R55_6_N rfl rfl rfl (opv_assign rfl rfl rfl) ?_
  refine aops_nil ?_
  exact ago_retE (rfl : C55_18 = .ret) (r := s_0) (ares_1 rfl (oneT rfl)) rfl H
theorem S55_0_ok (Q : Value → AW → Prop) (E : List PanicEntry → AW → Prop)  (ρ : Env) (s_0 : Value) (n_1 : Int) (aw : AW) (h0 : ρ 0 = s_0) (h1 : ρ 1 = .int .i64 n_1) (H : S55_0 Q E  s_0 n_1 aw) :
    AGo prog 27 [.code C55_0] ρ [] aw (RR prog f55 27 sh55 Q E) := by
  unfold S55_0 at H
  refine ago_seqE (rfl : C55_0 = .seq C55_1 C55_2) ?_
  refine ago_regE (rfl : C55_1 = .region 0 R55_0 false) (l := [0]) rfl ?_
  refine lj 4 R55_0_N rfl rfl rfl (opv_assign rfl rfl rfl) ?_
  refine aops_nil ?_
  refine ago_seqE (rfl : C55_2 = .seq C55_3 C55_8) ?_
  refine ago_seqE (rfl : C55_3 = .seq C55_4 C55_5) ?_
  refine ago_regE (rfl : C55_4 = .region 1 R55_1 false) (l := [0, 1]) rfl ?_
  refine lj 5 R55_1_N rfl rfl rfl (opv_move rfl rfl h1) ?_
  refine lj 6 R55_1_N rfl rfl rfl (opv_lt rfl rfl rfl rfl rfl) ?_
  refine aops_nil ?_
  refine ago_condE  (rfl : C55_5 = .cond (.tmp 6) C55_6 C55_7) rfl rfl (fun hb1 => ?_) (fun hb1 => ?_)
  · replace H := cnd_t H hb1
    refine ago_regE (rfl : C55_6 = .region 2 R55_2 false) (l := [0, 1]) rfl ?_
    refine lj 7 R55_2_N rfl rfl rfl (opv_mkIface rfl rfl underlying9 rfl rfl) ?_
    exact aops_panic R55_2_N rfl rfl (opp_panic rfl rfl rfl) ⟨rfl, H⟩
  replace H := cnd_f H hb1
  refine ago_skipE (rfl : C55_7 = .skip) ?_
  refine ago_seqE (rfl : C55_8 = .seq C55_9 C55_16) ?_
  refine ago_seqE (rfl : C55_9 = .seq C55_10 C55_11) ?_
  refine ago_regE (rfl : C55_10 = .region 3 R55_3 false) (l := [0, 1, 2, 3, 4, 5, 6, 7]) rfl ?_
  refine lj 8 R55_3_N rfl rfl rfl (opv_move rfl rfl h1) ?_
  refine lj 9 R55_3_N rfl rfl rfl (opv_move rfl rfl h0) ?_
  obtain ⟨q3, l4, c5, n2, hv6, hc7, hn8, H⟩ := H
  refine lj 10 R55_3_N rfl rfl rfl (ov_cap rfl rfl rfl underlying44 rfl hv6 hc7 hn8) ?_
  refine lj 11 R55_3_N rfl rfl rfl (opv_move rfl rfl h0) ?_
  obtain ⟨q10, l11, c12, n9, hv13, hn14, H⟩ := H
  refine lj 12 R55_3_N rfl rfl rfl (ov_len rfl rfl rfl underlying44 rfl hv13 hn14) ?_
  refine lj 13 R55_3_N rfl rfl rfl (opv_sub rfl rfl rfl rfl rfl) ?_
  refine lj 14 R55_3_N rfl rfl rfl (opv_sub rfl rfl rfl rfl rfl) ?_
  refine lj 1 R55_3_N rfl rfl rfl (opv_assign rfl rfl rfl) ?_
  refine aops_nil ?_
  refine ago_seqE (rfl : C55_11 = .seq C55_12 C55_13) ?_
  refine ago_regE (rfl : C55_12 = .region 4 R55_4 false) (l := [0, 1]) rfl ?_
  refine lj 15 R55_4_N rfl rfl rfl (opv_move rfl rfl rfl) ?_
  refine lj 16 R55_4_N rfl rfl rfl (opv_gt rfl rfl rfl rfl rfl) ?_
  refine aops_nil ?_
  refine ago_condE  (rfl : C55_13 = .cond (.tmp 16) C55_14 C55_15) rfl rfl (fun hb15 => ?_) (fun hb15 => ?_)
  · replace H := cnd_t H hb15
    refine ago_cut (fun ρ => ρ 0 = s_0 ∧ ρ 1 = .int .i64 (IntKind.i64.wrap (n_1 - (IntKind.i64.wrap (n2 - n9)))) ∧ True) ⟨h0, rfl, trivial⟩ (fun ρ ⟨h0, h1, _⟩ => ?_)
    refine ago_regE (rfl : C55_14 = .region 5 R55_5 false) (l := [0, 1, 2, 3, 4, 5, 6, 7, 8, 9]) rfl ?_
    refine lj 17 R55_5_N rfl rfl rfl (opv_move rfl rfl h0) ?_
    refine lj 18 R55_5_N rfl rfl rfl (opv_move rfl rfl h0) ?_
    obtain ⟨q17, l18, c19, n16, hv20, hc21, hn22, H⟩ := H
    refine lj 19 R55_5_N rfl rfl rfl (ov_cap rfl rfl rfl underlying44 rfl hv20 hc21 hn22) ?_
    obtain ⟨v23, hq24, H⟩ := H
    refine lj 20 R55_5_N rfl rfl rfl (ov_cutV rfl rfl underlying44 sz43 rfl (bndN _ _ _) (bndS rfl) hq24) ?_
    refine lj 21 R55_5_N rfl rfl rfl (opv_move rfl rfl h1) ?_
    obtain ⟨q27, q28, q29, q30, q31, v25, aw26, hq32, hq33, hq34, hq35, hq36, hq37, hq38, hq39, hq40, H⟩ := H
    refine lj 22 R55_5_N rfl rfl rfl (ov_appZ rfl rfl rfl rfl underlying44 sz43 by43 underlying3 z43 rfl rfl rfl (by decide) (by decide) rfl rfl hq32 hq33 hq34 hq35 hq36 hq37 hq38 hq39 hq40) ?_
    refine lj 23 R55_5_N rfl rfl rfl (opv_move rfl rfl h0) ?_
    obtain ⟨q42, l43, c44, n41, hv45, hn46, H⟩ := H
    refine lj 24 R55_5_N rfl rfl rfl (ov_len rfl rfl rfl underlying44 rfl hv45 hn46) ?_
    obtain ⟨v47, hq48, H⟩ := H
    refine lj 25 R55_5_N rfl rfl rfl (ov_cutV rfl rfl underlying44 sz43 rfl (bndN _ _ _) (bndS rfl) hq48) ?_
    refine lj 0 R55_5_N rfl rfl rfl (opv_assign rfl rfl rfl) ?_
    refine aops_nil ?_
    exact S55_1_ok Q E  _ v47 aw26 rfl H
  replace H := cnd_f H hb15
  refine ago_skipE (rfl : C55_15 = .skip) ?_
  exact S55_1_ok Q E  _ s_0 aw h0 H
theorem F55_ok {Q : Value → AW → Prop} {E : List PanicEntry → AW → Prop} (s_0 : Value) (n_1 : Int) (aw : AW) (H : S55_0 Q E s_0 n_1 aw) : CallP prog 55 [s_0, .int .i64 n_1] aw sh55 Q E :=
  callP_of func55 C55_is rfl (Nat.le_of_ble_eq_true rfl) (S55_0_ok Q E _ s_0 n_1 aw rfl rfl H)
def C59_0 := bodyOf f59
theorem C59_is : f59.body = some C59_0 := by kernel_rfl
def C59_1 := cl C59_0
def R59_0 := regOps C59_1
def C59_2 := cr C59_0
def C59_3 := cl C59_2
def C59_4 := cl C59_3
def R59_1 := regOps C59_4
def C59_5 := cr C59_3
def C59_6 := cl C59_5
def R59_2 := regOps C59_6
def C59_7 := cr C59_5
def C59_8 := cl C59_7
def C59_9 := cl C59_8
def R59_3 := regOps C59_9
def C59_10 := cr C59_8
def C59_11 := cl C59_10
def R59_4 := regOps C59_11
def C59_12 := cr C59_10
def C59_13 := cr C59_7
def C59_14 := cr C59_2
def C59_15 := cl C59_14
def R59_5 := regOps C59_15
def C59_16 := cr C59_14
theorem R59_0_N : dstsOk 33 R59_0 = true := by decide +kernel
theorem R59_1_N : dstsOk 33 R59_1 = true := by decide +kernel
theorem R59_2_N : dstsOk 33 R59_2 = true := by decide +kernel
theorem R59_3_N : dstsOk 33 R59_3 = true := by decide +kernel
theorem R59_4_N : dstsOk 33 R59_4 = true := by decide +kernel
theorem R59_5_N : dstsOk 33 R59_5 = true := by decide +kernel
def S59_0 (Q : (Int × Bool) → AW → Prop) (E : List PanicEntry → AW → Prop)  (b_0 : Value) (n_1 : Int) (aw : AW) : Prop :=
  nck b_0 (fldA b_0 0 fun p2 =>
  ldV aw p2 fun x10 =>
  slen x10 fun n12 =>
  nck b_0 (fldA b_0 0 fun p19 =>
  ldV aw p19 fun x27 =>
  scap x27 fun n29 =>
  cnd (decide (n_1 ≤ (IntKind.i64.wrap (n29 - n12)))) (nck b_0 (fldA b_0 0 fun p38 =>
  ldV aw p38 fun x46 =>
  cutV aw 1 x46 0 (IntKind.i64.wrap (n12 + n_1)) fun v48 =>
  nck b_0 (fldA b_0 0 fun p51 =>
  st aw p51 [v48] fun aw56 =>
  Q (n12, true) aw56))) (Q (0, false) aw)))
theorem S59_0_ok (Q : (Int × Bool) → AW → Prop) (E : List PanicEntry → AW → Prop)  (ρ : Env) (b_0 : Value) (n_1 : Int) (aw : AW) (h0 : ρ 0 = b_0) (h1 : ρ 1 = .int .i64 n_1) (H : S59_0 Q E  b_0 n_1 aw) :
    AGo prog 33 [.code C59_0] ρ [] aw (RR prog f59 33 sh59 Q E) := by
  unfold S59_0 at H
  refine ago_seqE (rfl : C59_0 = .seq C59_1 C59_2) ?_
  refine ago_regE (rfl : C59_1 = .region 0 R59_0 false) (l := [0, 1]) rfl ?_
  refine lj 4 R59_0_N rfl rfl rfl (opv_assign rfl rfl rfl) ?_
  refine lj 5 R59_0_N rfl rfl rfl (opv_assign rfl rfl rfl) ?_
  refine aops_nil ?_
  refine ago_seqE (rfl : C59_2 = .seq C59_3 C59_14) ?_
  refine ago_seqE (rfl : C59_3 = .seq C59_4 C59_5) ?_
  refine ago_regE (rfl : C59_4 = .region 1 R59_1 false) (l := [0, 1, 2, 3, 4, 5]) rfl ?_
  refine lj 7 R59_1_N rfl rfl rfl (opv_move rfl rfl h0) ?_
  obtain ⟨hp1, H⟩ := H
  refine lj 8 R59_1_N rfl rfl rfl (ov_nck rfl rfl rfl hp1) ?_
  obtain ⟨b3, i4, p2, hp5, hv6, H⟩ := H
  refine lj 9 R59_1_N rfl rfl rfl (ov_fldA rfl rfl underlying94 rfl sz73 (by decide) rfl hp5 rfl hv6) ?_
  obtain ⟨b7, i8, x10, hp9, hg11, H⟩ := H
  refine lj 10 R59_1_N rfl rfl rfl (ov_ldV rfl underlying73 rfl rfl rfl hp9 hg11) ?_
  obtain ⟨q13, l14, c15, n12, hv16, hn17, H⟩ := H
  refine lj 11 R59_1_N rfl rfl rfl (ov_len rfl rfl rfl underlying73 rfl hv16 hn17) ?_
  refine lj 6 R59_1_N rfl rfl rfl (opv_assign rfl rfl rfl) ?_
  refine aops_nil ?_
  refine ago_seqE (rfl : C59_5 = .seq C59_6 C59_7) ?_
  refine ago_regE (rfl : C59_6 = .region 2 R59_2 false) (l := [0, 1, 2, 3, 4, 5, 6, 7, 8]) rfl ?_
  refine lj 12 R59_2_N rfl rfl rfl (opv_move rfl rfl h1) ?_
  refine lj 13 R59_2_N rfl rfl rfl (opv_move rfl rfl h0) ?_
  obtain ⟨hp18, H⟩ := H
  refine lj 14 R59_2_N rfl rfl rfl (ov_nck rfl rfl rfl hp18) ?_
  obtain ⟨b20, i21, p19, hp22, hv23, H⟩ := H
  refine lj 15 R59_2_N rfl rfl rfl (ov_fldA rfl rfl underlying94 rfl sz73 (by decide) rfl hp22 rfl hv23) ?_
  obtain ⟨b24, i25, x27, hp26, hg28, H⟩ := H
  refine lj 16 R59_2_N rfl rfl rfl (ov_ldV rfl underlying73 rfl rfl rfl hp26 hg28) ?_
  obtain ⟨q30, l31, c32, n29, hv33, hc34, hn35, H⟩ := H
  refine lj 17 R59_2_N rfl rfl rfl (ov_cap rfl rfl rfl underlying73 rfl hv33 hc34 hn35) ?_
  refine lj 18 R59_2_N rfl rfl rfl (opv_move rfl rfl rfl) ?_
  refine lj 19 R59_2_N rfl rfl rfl (opv_sub rfl rfl rfl rfl rfl) ?_
  refine lj 20 R59_2_N rfl rfl rfl (opv_le rfl rfl rfl rfl rfl) ?_
  refine aops_nil ?_
  refine ago_condE  (rfl : C59_7 = .cond (.tmp 20) C59_8 C59_13) rfl rfl (fun hb36 => ?_) (fun hb36 => ?_)
  · replace H := cnd_t H hb36
    refine ago_seqE (rfl : C59_8 = .seq C59_9 C59_10) ?_
    refine ago_cut (fun ρ => ρ 0 = b_0 ∧ ρ 1 = .int .i64 n_1 ∧ ρ 6 = .int .i64 n12 ∧ True) ⟨h0, h1, rfl, trivial⟩ (fun ρ ⟨h0, h1, h6, _⟩ => ?_)
    refine ago_regE (rfl : C59_9 = .region 3 R59_3 false) (l := [0, 1, 2, 3, 4, 5, 6, 7, 8, 9, 10, 11]) rfl ?_
    refine lj 21 R59_3_N rfl rfl rfl (opv_move rfl rfl h0) ?_
    refine lj 22 R59_3_N rfl rfl rfl (opv_move rfl rfl h0) ?_
    obtain ⟨hp37, H⟩ := H
    refine lj 23 R59_3_N rfl rfl rfl (ov_nck rfl rfl rfl hp37) ?_
    obtain ⟨b39, i40, p38, hp41, hv42, H⟩ := H
    refine lj 24 R59_3_N rfl rfl rfl (ov_fldA rfl rfl underlying94 rfl sz73 (by decide) rfl hp41 rfl hv42) ?_
    obtain ⟨b43, i44, x46, hp45, hg47, H⟩ := H
    refine lj 25 R59_3_N rfl rfl rfl (ov_ldV rfl underlying73 rfl rfl rfl hp45 hg47) ?_
    refine lj 26 R59_3_N rfl rfl rfl (opv_move rfl rfl h6) ?_
    refine lj 27 R59_3_N rfl rfl rfl (opv_move rfl rfl h1) ?_
    refine lj 28 R59_3_N rfl rfl rfl (opv_add rfl rfl rfl rfl rfl) ?_
    obtain ⟨v48, hq49, H⟩ := H
    refine lj 29 R59_3_N rfl rfl rfl (ov_cutV rfl rfl underlying73 sz5 rfl (bndN _ _ _) (bndS rfl) hq49) ?_
    obtain ⟨hp50, H⟩ := H
    refine lj 30 R59_3_N rfl rfl rfl (ov_nck rfl rfl rfl hp50) ?_
    obtain ⟨b52, i53, p51, hp54, hv55, H⟩ := H
    refine lj 31 R59_3_N rfl rfl rfl (ov_fldA rfl rfl underlying94 rfl sz73 (by decide) rfl hp54 rfl hv55) ?_
    obtain ⟨b57, i58, aw56, hp59, hw60, ho61, ha62, H⟩ := H
    refine lk (dt := none) R59_3_N rfl rfl rfl (ov_st rfl rfl rfl rfl rfl (cells_all ho61) sz73 hp59 hw60 ho61 ha62) ?_
    refine aops_nil ?_
    refine ago_seqE (rfl : C59_10 = .seq C59_11 C59_12) ?_
    refine ago_cut (fun ρ => ρ 6 = .int .i64 n12 ∧ True) ⟨h6, trivial⟩ (fun ρ ⟨h6, _⟩ => ?_)
    refine ago_regE (rfl : C59_11 = .region 4 R59_4 false) (l := [0, 1, 2]) rfl ?_
    refine lj 32 R59_4_N rfl rfl rfl (opv_move rfl rfl h6) ?_
    refine lj 4 R59_4_N rfl rfl rfl (opv_assign rfl rfl rfl) ?_
    refine lj 5 R59_4_N rfl rfl rfl (opv_assign rfl rfl rfl) ?_
    refine aops_nil ?_
    exact ago_retE (rfl : C59_12 = .ret) (r := (n12, true)) (ares_2 rfl (oneT rfl) (oneT rfl)) rfl H
  replace H := cnd_f H hb36
  refine ago_skipE (rfl : C59_13 = .skip) ?_
  refine ago_seqE (rfl : C59_14 = .seq C59_15 C59_16) ?_
  refine ago_regE (rfl : C59_15 = .region 5 R59_5 false) (l := [0, 1]) rfl ?_
  refine lj 4 R59_5_N rfl rfl rfl (opv_assign rfl rfl rfl) ?_
  refine lj 5 R59_5_N rfl rfl rfl (opv_assign rfl rfl rfl) ?_
  refine aops_nil ?_
  exact ago_retE (rfl : C59_16 = .ret) (r := (0, false)) (ares_2 rfl (oneT rfl) (oneT rfl)) rfl H
theorem F59_ok {Q : (Int × Bool) → AW → Prop} {E : List PanicEntry → AW → Prop} (b_0 : Value) (n_1 : Int) (aw : AW) (H : S59_0 Q E b_0 n_1 aw) : CallP prog 59 [b_0, .int .i64 n_1] aw sh59 Q E :=
  callP_of func59 C59_is rfl (Nat.le_of_ble_eq_true rfl) (S59_0_ok Q E _ b_0 n_1 aw rfl rfl H)
def C60_0 := bodyOf f60
theorem C60_is : f60.body = some C60_0 := by kernel_rfl
def C60_1 := cl C60_0
def R60_0 := regOps C60_1
def C60_2 := cr C60_0
def C60_3 := cl C60_2
def R60_1 := regOps C60_3
def C60_4 := cr C60_2
def C60_5 := cl C60_4
def C60_6 := cl C60_5
def R60_2 := regOps C60_6
def C60_7 := cr C60_5
def C60_8 := cl C60_7
def C60_9 := cr C60_7
def C60_10 := cr C60_4
def C60_11 := cl C60_10
def C60_12 := cl C60_11
def R60_4 := regOps C60_12
def C60_13 := cr C60_11
def C60_14 := cl C60_13
def R60_5 := regOps C60_14
def C60_15 := cr C60_13
def C60_16 := cl C60_15
def C60_19 := cr C60_15
def C60_20 := cr C60_10
def C60_21 := cl C60_20
def C60_22 := cl C60_21
def R60_7 := regOps C60_22
def C60_23 := cr C60_21
def C60_24 := cl C60_23
def C60_25 := cl C60_24
def R60_8 := regOps C60_25
def C60_26 := cr C60_24
def C60_27 := cl C60_26
def R60_9 := regOps C60_27
def C60_28 := cr C60_26
def C60_29 := cr C60_23
def C60_30 := cr C60_20
def C60_31 := cl C60_30
def R60_10 := regOps C60_31
def C60_32 := cr C60_30
def C60_33 := cl C60_32
def C60_34 := cl C60_33
def R60_11 := regOps C60_34
def C60_35 := cr C60_33
def C60_36 := cl C60_35
def C60_37 := cr C60_35
def C60_38 := cl C60_37
def R60_13 := regOps C60_38
def C60_39 := cr C60_37
def C60_40 := cl C60_39
def C60_41 := cr C60_39
def R60_15 := regOps C60_41
def C60_42 := cr C60_32
def C60_43 := cl C60_42
def R60_16 := regOps C60_43
def C60_44 := cr C60_42
def C60_45 := cl C60_44
def R60_17 := regOps C60_45
def C60_46 := cr C60_44
def C60_47 := cl C60_46
def R60_18 := regOps C60_47
def C60_48 := cr C60_46
theorem R60_0_N : dstsOk 110 R60_0 = true := by decide +kernel
theorem R60_1_N : dstsOk 110 R60_1 = true := by decide +kernel
theorem R60_2_N : dstsOk 110 R60_2 = true := by decide +kernel
theorem R60_4_N : dstsOk 110 R60_4 = true := by decide +kernel
theorem R60_5_N : dstsOk 110 R60_5 = true := by decide +kernel
theorem R60_7_N : dstsOk 110 R60_7 = true := by decide +kernel
theorem R60_8_N : dstsOk 110 R60_8 = true := by decide +kernel
theorem R60_9_N : dstsOk 110 R60_9 = true := by decide +kernel
theorem R60_10_N : dstsOk 110 R60_10 = true := by decide +kernel
theorem R60_11_N : dstsOk 110 R60_11 = true := by decide +kernel
theorem R60_13_N : dstsOk 110 R60_13 = true := by decide +kernel
theorem R60_15_N : dstsOk 110 R60_15 = true := by decide +kernel
theorem R60_15_O : linOk R60_15 [0, 1, 2, 3, 4, 5, 6, 7, 8, 9, 10, 11, 12, 13, 14, 15] [(16, [0], [17, 18]), (19, [], [])] = true := by decide +kernel
theorem R60_16_N : dstsOk 110 R60_16 = true := by decide +kernel
theorem R60_17_N : dstsOk 110 R60_17 = true := by decide +kernel
theorem R60_18_N : dstsOk 110 R60_18 = true := by decide +kernel
def S60_3 (Q : Int → AW → Prop) (E : List PanicEntry → AW → Prop)  (b_0 : Value) (n_1 : Int) (m_5 : Int) (aw : AW) : Prop :=
  nck b_0 (fldA b_0 1 fun p2 =>
  st aw p2 [.int .i64 0] fun aw7 =>
  nck b_0 (fldA b_0 0 fun p15 =>
  ldV aw7 p15 fun x23 =>
  cutV aw7 1 x23 0 (IntKind.i64.wrap (m_5 + n_1)) fun v25 =>
  nck b_0 (fldA b_0 0 fun p28 =>
  st aw7 p28 [v25] fun aw33 =>
  Q m_5 aw33)))
def S60_2 (Q : Int → AW → Prop) (E : List PanicEntry → AW → Prop)  (b_0 : Value) (n_1 : Int) (m_5 : Int) (t_38 : Bool) (aw : AW) : Prop :=
  cnd t_38 (mk aw 5 1 1 [.int .u8 0] n_1 64 fun p41 aw42 =>
  nck b_0 (fldA b_0 0 fun p50 =>
  st aw42 p50 [p41] fun aw55 =>
  Q 0 aw55)) (nck b_0 (fldA b_0 0 fun p63 =>
  ldV aw p63 fun x71 =>
  scap x71 fun n73 =>
  cnd (decide (n_1 ≤ (IntKind.i64.wrap ((IntKind.i64.wrap (Int.tdiv n73 2)) - m_5)))) (False) (cnd (decide ((IntKind.i64.wrap ((IntKind.i64.wrap (9223372036854775807 - n73)) - n_1)) < n73)) (False) (nck b_0 (fldA b_0 0 fun p83 =>
  ldV aw p83 fun x91 =>
  nck b_0 (fldA b_0 1 fun p94 =>
  ldI .i64 aw p94 fun x102 =>
  cutV aw 1 x91 x102 (lenV x91) fun v104 =>
  nck b_0 (fldA b_0 1 fun p107 =>
  ldI .i64 aw p107 fun x115 =>
  CallP prog 78 [v104, .int .i64 (IntKind.i64.wrap (x115 + n_1))] aw sh78 (fun r117 aw118 =>
  nck b_0 (fldA b_0 0 fun p120 =>
  st aw118 p120 [r117] fun aw125 =>
  S60_3 Q E  b_0 n_1 m_5 aw125)) E)))))))
def S60_1 (Q : Int → AW → Prop) (E : List PanicEntry → AW → Prop)  (b_0 : Value) (n_1 : Int) (m_5 : Int) (aw : AW) : Prop :=
  CallP prog 59 [b_0, .int .i64 n_1] aw sh59 (fun r132 aw133 =>
  cnd r132.2 (False) (nck b_0 (fldA b_0 0 fun p136 =>
  ldV aw133 p136 fun x144 =>
  nilB (.slice 5) x144 (.slice none 0 0) fun q146 =>
  cnd q146 (S60_2 Q E  b_0 n_1 m_5 (decide (n_1 ≤ 64)) aw133) (S60_2 Q E  b_0 n_1 m_5 false aw133)))) E
def S60_0 (Q : Int → AW → Prop) (E : List PanicEntry → AW → Prop)  (b_0 : Value) (n_1 : Int) (aw : AW) : Prop :=
  CallP prog 76 [b_0] aw sh76 (fun r150 aw151 =>
  cnd (decide (r150 = 0)) (nck b_0 (fldA b_0 1 fun p154 =>
  ldI .i64 aw151 p154 fun x162 =>
  cnd (!decide (x162 = 0)) (False) (S60_1 Q E  b_0 n_1 r150 aw151))) (S60_1 Q E  b_0 n_1 r150 aw151)) E
theorem S60_3_ok (Q : Int → AW → Prop) (E : List PanicEntry → AW → Prop)  (ρ : Env) (b_0 : Value) (n_1 : Int) (m_5 : Int) (aw : AW) (h0 : ρ 0 = b_0) (h1 : ρ 1 = .int .i64 n_1) (h5 : ρ 5 = .int .i64 m_5) (H : S60_3 Q E  b_0 n_1 m_5 aw) :
    AGo prog 110 [.code C60_42] ρ [] aw (RR prog f60 110 sh60 Q E) := by
  unfold S60_3 at H
  refine ago_seqE (rfl : C60_42 = .seq C60_43 C60_44) ?_
  refine ago_regE (rfl : C60_43 = .region 16 R60_16 false) (l := [0, 1, 2, 3]) rfl ?_
  refine lj 95 R60_16_N rfl rfl rfl (opv_move rfl rfl h0) ?_
  obtain ⟨hp1, H⟩ := H
  refine lj 96 R60_16_N rfl rfl rfl (ov_nck rfl rfl rfl hp1) ?_
  obtain ⟨b3, i4, p2, hp5, hv6, H⟩ := H
  refine lj 97 R60_16_N rfl rfl rfl (ov_fldA rfl rfl underlying94 rfl sz3 (by decide) rfl hp5 rfl hv6) ?_
  obtain ⟨b8, i9, aw7, hp10, hw11, ho12, ha13, H⟩ := H
  refine lk (dt := none) R60_16_N rfl rfl rfl (ov_st rfl rfl rfl rfl rfl rfl sz3 hp10 hw11 ho12 ha13) ?_
  refine aops_nil ?_
  refine ago_seqE (rfl : C60_44 = .seq C60_45 C60_46) ?_
  refine ago_regE (rfl : C60_45 = .region 17 R60_17 false) (l := [0, 1, 2, 3, 4, 5, 6, 7, 8, 9, 10, 11]) rfl ?_
  refine lj 98 R60_17_N rfl rfl rfl (opv_move rfl rfl h0) ?_
  refine lj 99 R60_17_N rfl rfl rfl (opv_move rfl rfl h0) ?_
  obtain ⟨hp14, H⟩ := H
  refine lj 100 R60_17_N rfl rfl rfl (ov_nck rfl rfl rfl hp14) ?_
  obtain ⟨b16, i17, p15, hp18, hv19, H⟩ := H
  refine lj 101 R60_17_N rfl rfl rfl (ov_fldA rfl rfl underlying94 rfl sz73 (by decide) rfl hp18 rfl hv19) ?_
  obtain ⟨b20, i21, x23, hp22, hg24, H⟩ := H
  refine lj 102 R60_17_N rfl rfl rfl (ov_ldV rfl underlying73 rfl rfl rfl hp22 hg24) ?_
  refine lj 103 R60_17_N rfl rfl rfl (opv_move rfl rfl h5) ?_
  refine lj 104 R60_17_N rfl rfl rfl (opv_move rfl rfl h1) ?_
  refine lj 105 R60_17_N rfl rfl rfl (opv_add rfl rfl rfl rfl rfl) ?_
  obtain ⟨v25, hq26, H⟩ := H
  refine lj 106 R60_17_N rfl rfl rfl (ov_cutV rfl rfl underlying73 sz5 rfl (bndN _ _ _) (bndS rfl) hq26) ?_
  obtain ⟨hp27, H⟩ := H
  refine lj 107 R60_17_N rfl rfl rfl (ov_nck rfl rfl rfl hp27) ?_
  obtain ⟨b29, i30, p28, hp31, hv32, H⟩ := H
  refine lj 108 R60_17_N rfl rfl rfl (ov_fldA rfl rfl underlying94 rfl sz73 (by decide) rfl hp31 rfl hv32) ?_
  obtain ⟨b34, i35, aw33, hp36, hw37, ho38, ha39, H⟩ := H
  refine lk (dt := none) R60_17_N rfl rfl rfl (ov_st rfl rfl rfl rfl rfl (cells_all ho38) sz73 hp36 hw37 ho38 ha39) ?_
  refine aops_nil ?_
  refine ago_seqE (rfl : C60_46 = .seq C60_47 C60_48) ?_
  refine ago_cut (fun ρ => ρ 5 = .int .i64 m_5 ∧ True) ⟨h5, trivial⟩ (fun ρ ⟨h5, _⟩ => ?_)
  refine ago_regE (rfl : C60_47 = .region 18 R60_18 false) (l := [0, 1]) rfl ?_
  refine lj 109 R60_18_N rfl rfl rfl (opv_move rfl rfl h5) ?_
  refine lj 4 R60_18_N rfl rfl rfl (opv_assign rfl rfl rfl) ?_
  refine aops_nil ?_
  exact ago_retE (rfl : C60_48 = .ret) (r := m_5) (ares_1 rfl (oneT rfl)) rfl H
theorem S60_2_ok (Q : Int → AW → Prop) (E : List PanicEntry → AW → Prop)  (ρ : Env) (b_0 : Value) (n_1 : Int) (m_5 : Int) (t_38 : Bool) (aw : AW) (h0 : ρ 0 = b_0) (h1 : ρ 1 = .int .i64 n_1) (h5 : ρ 5 = .int .i64 m_5) (h38 : ρ 38 = .bool t_38) (H : S60_2 Q E  b_0 n_1 m_5 t_38 aw) :
    AGo prog 110 [.code C60_23, .code C60_30] ρ [] aw (RR prog f60 110 sh60 Q E) := by
  unfold S60_2 at H
  refine ago_condE  (rfl : C60_23 = .cond (.tmp 38) C60_24 C60_29) rfl h38 (fun hb40 => ?_) (fun hb40 => ?_)
  · replace H := cnd_t H hb40
    refine ago_seqE (rfl : C60_24 = .seq C60_25 C60_26) ?_
    refine ago_regE (rfl : C60_25 = .region 8 R60_8 false) (l := [0, 1, 2, 3, 4, 5]) rfl ?_
    refine lj 39 R60_8_N rfl rfl rfl (opv_move rfl rfl h0) ?_
    refine lj 40 R60_8_N rfl rfl rfl (opv_move rfl rfl h1) ?_
    obtain ⟨p41, aw42, hq43, hq44, hq45, hq46, hq47, hq48, H⟩ := H
    refine lj 41 R60_8_N rfl rfl rfl (ov_mk rfl rfl rfl underlying73 sz5 by5 z5 rfl (by decide) rfl rfl rfl rfl hq43 hq44 hq45 hq46 hq47 hq48) ?_
    obtain ⟨hp49, H⟩ := H
    refine lj 42 R60_8_N rfl rfl rfl (ov_nck rfl rfl rfl hp49) ?_
    obtain ⟨b51, i52, p50, hp53, hv54, H⟩ := H
    refine lj 43 R60_8_N rfl rfl rfl (ov_fldA rfl rfl underlying94 rfl sz73 (by decide) rfl hp53 rfl hv54) ?_
    obtain ⟨b56, i57, aw55, hp58, hw59, ho60, ha61, H⟩ := H
    refine lk (dt := none) R60_8_N rfl rfl rfl (ov_st rfl rfl rfl rfl rfl (cells_all ho60) sz73 hp58 hw59 ho60 ha61) ?_
    refine aops_nil ?_
    refine ago_seqE (rfl : C60_26 = .seq C60_27 C60_28) ?_
    refine ago_regE (rfl : C60_27 = .region 9 R60_9 false) (l := [0]) rfl ?_
    refine lj 4 R60_9_N rfl rfl rfl (opv_assign rfl rfl rfl) ?_
    refine aops_nil ?_
    exact ago_retE (rfl : C60_28 = .ret) (r := 0) (ares_1 rfl (oneT rfl)) rfl H
  replace H := cnd_f H hb40
  refine ago_skipE (rfl : C60_29 = .skip) ?_
  refine ago_seqE (rfl : C60_30 = .seq C60_31 C60_32) ?_
  refine ago_regE (rfl : C60_31 = .region 10 R60_10 false) (l := [0, 1, 2, 3, 4, 5]) rfl ?_
  refine lj 44 R60_10_N rfl rfl rfl (opv_move rfl rfl h0) ?_
  obtain ⟨hp62, H⟩ := H
  refine lj 45 R60_10_N rfl rfl rfl (ov_nck rfl rfl rfl hp62) ?_
  obtain ⟨b64, i65, p63, hp66, hv67, H⟩ := H
  refine lj 46 R60_10_N rfl rfl rfl (ov_fldA rfl rfl underlying94 rfl sz73 (by decide) rfl hp66 rfl hv67) ?_
  obtain ⟨b68, i69, x71, hp70, hg72, H⟩ := H
  refine lj 47 R60_10_N rfl rfl rfl (ov_ldV rfl underlying73 rfl rfl rfl hp70 hg72) ?_
  obtain ⟨q74, l75, c76, n73, hv77, hc78, hn79, H⟩ := H
  refine lj 48 R60_10_N rfl rfl rfl (ov_cap rfl rfl rfl underlying73 rfl hv77 hc78 hn79) ?_
  refine lj 8 R60_10_N rfl rfl rfl (opv_assign rfl rfl rfl) ?_
  refine aops_nil ?_
  refine ago_seqE (rfl : C60_32 = .seq C60_33 C60_42) ?_
  refine ago_seqE (rfl : C60_33 = .seq C60_34 C60_35) ?_
  refine ago_regE (rfl : C60_34 = .region 11 R60_11 false) (l := [0, 1, 2, 3, 4, 5]) rfl ?_
  refine lj 49 R60_11_N rfl rfl rfl (opv_move rfl rfl h1) ?_
  refine lj 50 R60_11_N rfl rfl rfl (opv_move rfl rfl rfl) ?_
  refine lj 51 R60_11_N rfl rfl rfl (opv_quo rfl rfl rfl rfl rfl (by decide)) ?_
  refine lj 52 R60_11_N rfl rfl rfl (opv_move rfl rfl h5) ?_
  refine lj 53 R60_11_N rfl rfl rfl (opv_sub rfl rfl rfl rfl rfl) ?_
  refine lj 54 R60_11_N rfl rfl rfl (opv_le rfl rfl rfl rfl rfl) ?_
  refine aops_nil ?_
  refine ago_condE  (rfl : C60_35 = .cond (.tmp 54) C60_36 C60_37) rfl rfl (fun hb80 => ?_) (fun hb80 => ?_)
  · exact (cnd_t H hb80).elim
  replace H := cnd_f H hb80
  refine ago_seqE (rfl : C60_37 = .seq C60_38 C60_39) ?_
  refine ago_cut (fun ρ => ρ 0 = b_0 ∧ ρ 1 = .int .i64 n_1 ∧ ρ 5 = .int .i64 m_5 ∧ ρ 8 = .int .i64 n73 ∧ True) ⟨h0, h1, h5, rfl, trivial⟩ (fun ρ ⟨h0, h1, h5, h8, _⟩ => ?_)
  refine ago_regE (rfl : C60_38 = .region 13 R60_13 false) (l := [0, 1, 2, 3, 4, 5]) rfl ?_
  refine lj 69 R60_13_N rfl rfl rfl (opv_move rfl rfl h8) ?_
  refine lj 70 R60_13_N rfl rfl rfl (opv_move rfl rfl h8) ?_
  refine lj 71 R60_13_N rfl rfl rfl (opv_sub rfl rfl rfl rfl rfl) ?_
  refine lj 72 R60_13_N rfl rfl rfl (opv_move rfl rfl h1) ?_
  refine lj 73 R60_13_N rfl rfl rfl (opv_sub rfl rfl rfl rfl rfl) ?_
  refine lj 74 R60_13_N rfl rfl rfl (opv_gt rfl rfl rfl rfl rfl) ?_
  refine aops_nil ?_
  refine ago_condE  (rfl : C60_39 = .cond (.tmp 74) C60_40 C60_41) rfl rfl (fun hb81 => ?_) (fun hb81 => ?_)
  · exact (cnd_t H hb81).elim
  replace H := cnd_f H hb81
  obtain ⟨hp82, H⟩ := H
  obtain ⟨b84, i85, p83, hp86, hv87, H⟩ := H
  obtain ⟨b88, i89, x91, hp90, hg92, H⟩ := H
  obtain ⟨hp93, H⟩ := H
  obtain ⟨b95, i96, p94, hp97, hv98, H⟩ := H
  obtain ⟨b99, i100, x102, hp101, hg103, H⟩ := H
  obtain ⟨v104, hq105, H⟩ := H
  obtain ⟨hp106, H⟩ := H
  obtain ⟨b108, i109, p107, hp110, hv111, H⟩ := H
  obtain ⟨b112, i113, x115, hp114, hg116, H⟩ := H
  refine ago_drawH (p := [0, 1, 2, 3, 4, 5, 6, 7, 8, 9, 10, 11, 12, 13, 14, 15]) (tl := [(16, [0], [17, 18]), (19, [], [])]) (hv := [(0, b_0), (1, b_0), (2, b_0), (3, p83), (4, x91), (5, b_0), (6, b_0), (7, p94), (8, Value.int .i64 x102), (9, v104), (10, b_0), (11, b_0), (12, p107), (13, Value.int .i64 x115), (14, Value.int .i64 n_1), (15, Value.int .i64 (IntKind.i64.wrap (x115 + n_1)))]) (rfl : C60_41 = .region 15 R60_15 true) mixed R60_15_N R60_15_O rfl (pv_cons rfl (pv_cons rfl (pv_cons rfl (pv_cons rfl (pv_cons rfl (pv_cons rfl (pv_cons rfl (pv_cons rfl (pv_cons rfl (pv_cons rfl (pv_cons rfl (pv_cons rfl (pv_cons rfl (pv_cons rfl (pv_cons rfl (pv_cons rfl (pv_nil _)))))))))))))))))
    (fc 76 b_0 (hd_v rfl fun ρ hρ => ⟨rfl, opv_move rfl rfl ((hρ 0 (lmem rfl)).trans h0)⟩) rfl rfl
    (fc 77 b_0 (hd_v rfl fun ρ hρ => ⟨rfl, opv_move rfl rfl ((hρ 0 (lmem rfl)).trans h0)⟩) rfl rfl
    (fc 78 b_0 (hd_v rfl fun ρ hρ => ⟨rfl, ov_nck rfl rfl ((hρ 77 (lmem rfl)).trans rfl) hp82⟩) rfl rfl
    (fc 79 p83 (hd_v rfl fun ρ hρ => ⟨rfl, ov_fldA rfl rfl underlying94 rfl sz73 (by decide) ((hρ 78 (lmem rfl)).trans rfl) hp86 rfl hv87⟩) rfl rfl
    (fc 80 x91 (hd_v rfl fun ρ hρ => ⟨rfl, ov_ldV rfl underlying73 rfl rfl ((hρ 79 (lmem rfl)).trans rfl) hp90 hg92⟩) rfl rfl
    (fc 81 b_0 (hd_v rfl fun ρ hρ => ⟨rfl, opv_move rfl rfl ((hρ 0 (lmem rfl)).trans h0)⟩) rfl rfl
    (fc 82 b_0 (hd_v rfl fun ρ hρ => ⟨rfl, ov_nck rfl rfl ((hρ 81 (lmem rfl)).trans rfl) hp93⟩) rfl rfl
    (fc 83 p94 (hd_v rfl fun ρ hρ => ⟨rfl, ov_fldA rfl rfl underlying94 rfl sz3 (by decide) ((hρ 82 (lmem rfl)).trans rfl) hp97 rfl hv98⟩) rfl rfl
    (fc 84 (.int .i64 x102) (hd_v rfl fun ρ hρ => ⟨rfl, ov_ldI rfl underlying3 rfl ((hρ 83 (lmem rfl)).trans rfl) hp101 hg103⟩) rfl rfl
    (fc 85 v104 (hd_v rfl fun ρ hρ => ⟨rfl, ov_cutV rfl rfl underlying73 sz5 ((hρ 80 (lmem rfl)).trans rfl) (bndS ((hρ 84 (lmem rfl)).trans rfl)) (bndN _ _ _) hq105⟩) rfl rfl
    (fc 86 b_0 (hd_v rfl fun ρ hρ => ⟨rfl, opv_move rfl rfl ((hρ 0 (lmem rfl)).trans h0)⟩) rfl rfl
    (fc 87 b_0 (hd_v rfl fun ρ hρ => ⟨rfl, ov_nck rfl rfl ((hρ 86 (lmem rfl)).trans rfl) hp106⟩) rfl rfl
    (fc 88 p107 (hd_v rfl fun ρ hρ => ⟨rfl, ov_fldA rfl rfl underlying94 rfl sz3 (by decide) ((hρ 87 (lmem rfl)).trans rfl) hp110 rfl hv111⟩) rfl rfl
    (fc 89 (.int .i64 x115) (hd_v rfl fun ρ hρ => ⟨rfl, ov_ldI rfl underlying3 rfl ((hρ 88 (lmem rfl)).trans rfl) hp114 hg116⟩) rfl rfl
    (fc 90 (.int .i64 n_1) (hd_v rfl fun ρ hρ => ⟨rfl, opv_move rfl rfl ((hρ 1 (lmem rfl)).trans h1)⟩) rfl rfl
    (fc 91 (.int .i64 (IntKind.i64.wrap (x115 + n_1))) (hd_v rfl fun ρ hρ => ⟨rfl, opv_add rfl rfl rfl ((hρ 89 (lmem rfl)).trans rfl) ((hρ 90 (lmem rfl)).trans rfl)⟩) rfl rfl
    ffn)))))))))))))))) ?_
  refine lt_call (dt := some 92) rfl rfl (fun ρ hρ => ⟨rfl, opc_of rfl rfl is78 (ma_cons ((hρ 85 (lmem rfl)).trans rfl) (ma_cons ((hρ 91 (lmem rfl)).trans rfl) rfl))⟩) H (fun _ _ h _ => ⟨rfl, h⟩) fun r117 aw118 H => ?_
  obtain ⟨hp119, H⟩ := H
  obtain ⟨b121, i122, p120, hp123, hv124, H⟩ := H
  refine lt_next (l := [0, 17, 18]) (hv := [(17, b_0), (18, p120)]) rfl rfl (pv_cons rfl (pv_cons rfl (pv_nil _)))
    (fc 76 b_0 (hd_v rfl fun ρ hρ => ⟨rfl, opv_move rfl rfl ((hρ 0 (lmem rfl)).trans h0)⟩) rfl rfl
    (fc 93 b_0 (hd_v rfl fun ρ hρ => ⟨rfl, ov_nck rfl rfl ((hρ 76 (lmem rfl)).trans rfl) hp119⟩) rfl rfl
    (fc 94 p120 (hd_v rfl fun ρ hρ => ⟨rfl, ov_fldA rfl rfl underlying94 rfl sz73 (by decide) ((hρ 93 (lmem rfl)).trans rfl) hp123 rfl hv124⟩) rfl rfl
    ffn))) ?_
  obtain ⟨b126, i127, aw125, hp128, hw129, ho130, ha131, H⟩ := H
  refine lt_val (dt := none) (v := undef) rfl rfl (fun ρ hρ => ⟨rfl, ov_st rfl rfl rfl ((hρ 94 (lmem rfl)).trans rfl) ((hρ 92 (lmem rfl)).trans rfl) (cells_all ho130) sz73 hp128 hw129 ho130 ha131⟩) ?_
  refine lt_next (l := []) (hv := []) rfl rfl (pv_nil _)
    ffn ?_
  refine lt_end ?_
  exact S60_3_ok Q E  _ b_0 n_1 m_5 aw125 h0 h1 h5 H
theorem S60_1_ok (Q : Int → AW → Prop) (E : List PanicEntry → AW → Prop)  (ρ : Env) (b_0 : Value) (n_1 : Int) (m_5 : Int) (aw : AW) (h0 : ρ 0 = b_0) (h1 : ρ 1 = .int .i64 n_1) (h5 : ρ 5 = .int .i64 m_5) (H : S60_1 Q E  b_0 n_1 m_5 aw) :
    AGo prog 110 [.code C60_10] ρ [] aw (RR prog f60 110 sh60 Q E) := by
  unfold S60_1 at H
  refine ago_seqE (rfl : C60_10 = .seq C60_11 C60_20) ?_
  refine ago_seqE (rfl : C60_11 = .seq C60_12 C60_13) ?_
  refine ago_regE (rfl : C60_12 = .region 4 R60_4 false) (l := [0, 1, 2, 3, 4, 5, 6, 7]) rfl ?_
  refine lj 23 R60_4_N rfl rfl rfl (opv_move rfl rfl h0) ?_
  refine lj 24 R60_4_N rfl rfl rfl (opv_move rfl rfl h1) ?_
  refine lc 25 R60_4_N rfl rfl rfl (opc_of rfl rfl is59 (ma_cons rfl (ma_cons rfl rfl))) H (fun _ _ h => ⟨rfl, h⟩) fun r132 aw133 H => ?_
  refine lj 22 R60_4_N rfl rfl rfl (opv_move rfl rfl rfl) ?_
  refine lj 26 R60_4_N rfl rfl rfl (opv_extract rfl rfl rfl rfl) ?_
  refine lj 27 R60_4_N rfl rfl rfl (opv_extract rfl rfl rfl rfl) ?_
  refine lj 6 R60_4_N rfl rfl rfl (opv_assign rfl rfl rfl) ?_
  refine lj 7 R60_4_N rfl rfl rfl (opv_assign rfl rfl rfl) ?_
  refine aops_nil ?_
  refine ago_seqE (rfl : C60_13 = .seq C60_14 C60_15) ?_
  refine ago_regE (rfl : C60_14 = .region 5 R60_5 false) (l := [0]) rfl ?_
  refine lj 28 R60_5_N rfl rfl rfl (opv_move rfl rfl rfl) ?_
  refine aops_nil ?_
  refine ago_condE  (rfl : C60_15 = .cond (.tmp 28) C60_16 C60_19) rfl rfl (fun hb134 => ?_) (fun hb134 => ?_)
  · exact (cnd_t H hb134).elim
  replace H := cnd_f H hb134
  refine ago_skipE (rfl : C60_19 = .skip) ?_
  refine ago_seqE (rfl : C60_20 = .seq C60_21 C60_30) ?_
  refine ago_seqE (rfl : C60_21 = .seq C60_22 C60_23) ?_
  refine ago_regE (rfl : C60_22 = .region 7 R60_7 false) (l := [0, 1, 2, 3, 4, 5, 6, 7, 8]) rfl ?_
  refine lj 30 R60_7_N rfl rfl rfl (opv_move rfl rfl h0) ?_
  obtain ⟨hp135, H⟩ := H
  refine lj 31 R60_7_N rfl rfl rfl (ov_nck rfl rfl rfl hp135) ?_
  obtain ⟨b137, i138, p136, hp139, hv140, H⟩ := H
  refine lj 32 R60_7_N rfl rfl rfl (ov_fldA rfl rfl underlying94 rfl sz73 (by decide) rfl hp139 rfl hv140) ?_
  obtain ⟨b141, i142, x144, hp143, hg145, H⟩ := H
  refine lj 33 R60_7_N rfl rfl rfl (ov_ldV rfl underlying73 rfl rfl rfl hp143 hg145) ?_
  obtain ⟨q146, hf147, hq148, H⟩ := H
  refine lj 34 R60_7_N rfl rfl rfl (ov_eqNil rfl rfl underlying73 rfl hf147 hq148) ?_
  refine lj 35 R60_7_N rfl rfl rfl (opv_move rfl rfl rfl) ?_
  rcases Bool.eq_false_or_eq_true q146 with hb149 | hb149
  · replace H := cnd_t H hb149
    refine lj 36 R60_7_N rfl rfl ⟨_, rfl, .inl ⟨_, rfl, gq hb149 rfl⟩⟩ (opv_move rfl rfl h1) ?_
    refine lj 37 R60_7_N rfl rfl ⟨_, rfl, .inl ⟨_, rfl, gq hb149 rfl⟩⟩ (opv_le rfl rfl rfl rfl rfl) ?_
    refine lj 38 R60_7_N rfl rfl rfl (ov_pickT rfl rfl rfl rfl rfl hb149 rfl) ?_
    refine aops_nil ?_
    exact S60_2_ok Q E  _ b_0 n_1 m_5 (decide (n_1 ≤ 64)) aw133 h0 h1 h5 rfl H
  · replace H := cnd_f H hb149
    refine ls 36 R60_7_N rfl rfl ⟨_, rfl, .inl ⟨_, rfl, gq hb149 rfl⟩⟩ ?_
    refine ls 37 R60_7_N rfl rfl ⟨_, rfl, .inl ⟨_, rfl, gq hb149 rfl⟩⟩ ?_
    refine lj 38 R60_7_N rfl rfl rfl (ov_pickF rfl rfl rfl rfl rfl hb149 rfl) ?_
    refine aops_nil ?_
    exact S60_2_ok Q E  _ b_0 n_1 m_5 false aw133 h0 h1 h5 rfl H
theorem S60_0_ok (Q : Int → AW → Prop) (E : List PanicEntry → AW → Prop)  (ρ : Env) (b_0 : Value) (n_1 : Int) (aw : AW) (h0 : ρ 0 = b_0) (h1 : ρ 1 = .int .i64 n_1) (H : S60_0 Q E  b_0 n_1 aw) :
    AGo prog 110 [.code C60_0] ρ [] aw (RR prog f60 110 sh60 Q E) := by
  unfold S60_0 at H
  refine ago_seqE (rfl : C60_0 = .seq C60_1 C60_2) ?_
  refine ago_regE (rfl : C60_1 = .region 0 R60_0 false) (l := [0]) rfl ?_
  refine lj 4 R60_0_N rfl rfl rfl (opv_assign rfl rfl rfl) ?_
  refine aops_nil ?_
  refine ago_seqE (rfl : C60_2 = .seq C60_3 C60_4) ?_
  refine ago_regE (rfl : C60_3 = .region 1 R60_1 false) (l := [0, 1, 2]) rfl ?_
  refine lj 9 R60_1_N rfl rfl rfl (opv_move rfl rfl h0) ?_
  refine lc 10 R60_1_N rfl rfl rfl (opc_of rfl rfl is76 (ma_cons rfl rfl)) H (fun _ _ h => ⟨rfl, h⟩) fun r150 aw151 H => ?_
  refine lj 5 R60_1_N rfl rfl rfl (opv_assign rfl rfl rfl) ?_
  refine aops_nil ?_
  refine ago_seqE (rfl : C60_4 = .seq C60_5 C60_10) ?_
  refine ago_seqE (rfl : C60_5 = .seq C60_6 C60_7) ?_
  refine ago_regE (rfl : C60_6 = .region 2 R60_2 false) (l := [0, 1, 2, 3, 4, 5, 6, 7, 8]) rfl ?_
  refine lj 11 R60_2_N rfl rfl rfl (opv_move rfl rfl rfl) ?_
  refine lj 12 R60_2_N rfl rfl rfl (opv_eqI rfl rfl rfl rfl rfl) ?_
  refine lj 13 R60_2_N rfl rfl rfl (opv_move rfl rfl rfl) ?_
  rcases Bool.eq_false_or_eq_true (decide (r150 = 0)) with hb152 | hb152
  · replace H := cnd_t H hb152
    refine lj 14 R60_2_N rfl rfl ⟨_, rfl, .inl ⟨_, rfl, gq hb152 rfl⟩⟩ (opv_move rfl rfl h0) ?_
    obtain ⟨hp153, H⟩ := H
    refine lj 15 R60_2_N rfl rfl ⟨_, rfl, .inl ⟨_, rfl, gq hb152 rfl⟩⟩ (ov_nck rfl rfl rfl hp153) ?_
    obtain ⟨b155, i156, p154, hp157, hv158, H⟩ := H
    refine lj 16 R60_2_N rfl rfl ⟨_, rfl, .inl ⟨_, rfl, gq hb152 rfl⟩⟩ (ov_fldA rfl rfl underlying94 rfl sz3 (by decide) rfl hp157 rfl hv158) ?_
    obtain ⟨b159, i160, x162, hp161, hg163, H⟩ := H
    refine lj 17 R60_2_N rfl rfl ⟨_, rfl, .inl ⟨_, rfl, gq hb152 rfl⟩⟩ (ov_ldI rfl underlying3 rfl rfl hp161 hg163) ?_
    refine lj 18 R60_2_N rfl rfl ⟨_, rfl, .inl ⟨_, rfl, gq hb152 rfl⟩⟩ (opv_neI rfl rfl rfl rfl rfl) ?_
    refine lj 19 R60_2_N rfl rfl rfl (ov_pickT rfl rfl rfl rfl rfl hb152 rfl) ?_
    refine aops_nil ?_
    refine ago_condE  (rfl : C60_7 = .cond (.tmp 19) C60_8 C60_9) rfl rfl (fun hb164 => ?_) (fun hb164 => ?_)
    · exact (cnd_t H hb164).elim
    replace H := cnd_f H hb164
    refine ago_skipE (rfl : C60_9 = .skip) ?_
    exact S60_1_ok Q E  _ b_0 n_1 r150 aw151 h0 h1 rfl H
  · replace H := cnd_f H hb152
    refine ls 14 R60_2_N rfl rfl ⟨_, rfl, .inl ⟨_, rfl, gq hb152 rfl⟩⟩ ?_
    refine ls 15 R60_2_N rfl rfl ⟨_, rfl, .inl ⟨_, rfl, gq hb152 rfl⟩⟩ ?_
    refine ls 16 R60_2_N rfl rfl ⟨_, rfl, .inl ⟨_, rfl, gq hb152 rfl⟩⟩ ?_
    refine ls 17 R60_2_N rfl rfl ⟨_, rfl, .inl ⟨_, rfl, gq hb152 rfl⟩⟩ ?_
    refine ls 18 R60_2_N rfl rfl ⟨_, rfl, .inl ⟨_, rfl, gq hb152 rfl⟩⟩ ?_
    refine lj 19 R60_2_N rfl rfl rfl (ov_pickF rfl rfl rfl rfl rfl hb152 rfl) ?_
    refine aops_nil ?_
    refine ago_condE  (rfl : C60_7 = .cond (.tmp 19) C60_8 C60_9) rfl rfl (fun h => ft h) (fun h => ?_)
    refine ago_skipE (rfl : C60_9 = .skip) ?_
    exact S60_1_ok Q E  _ b_0 n_1 r150 aw151 h0 h1 rfl H
theorem F60_ok {Q : Int → AW → Prop} {E : List PanicEntry → AW → Prop} (b_0 : Value) (n_1 : Int) (aw : AW) (H : S60_0 Q E b_0 n_1 aw) : CallP prog 60 [b_0, .int .i64 n_1] aw sh60 Q E :=
  callP_of func60 C60_is rfl (Nat.le_of_ble_eq_true rfl) (S60_0_ok Q E _ b_0 n_1 aw rfl rfl H)
def C78_0 := bodyOf f78
theorem C78_is : f78.body = some C78_0 := by kernel_rfl
def C78_1 := cl C78_0
def R78_0 := regOps C78_1
def C78_2 := cr C78_0
def C78_3 := cl C78_2
def R78_1 := regOps C78_3
def C78_4 := cr C78_2
def C78_5 := cl C78_4
def R78_2 := regOps C78_5
def C78_6 := cr C78_4
def C78_7 := cl C78_6
def C78_8 := cl C78_7
def R78_3 := regOps C78_8
def C78_9 := cr C78_7
def C78_10 := cl C78_9
def R78_4 := regOps C78_10
def C78_11 := cr C78_9
def C78_12 := cr C78_6
def C78_13 := cl C78_12
def R78_5 := regOps C78_13
def C78_14 := cr C78_12
def C78_15 := cl C78_14
def R78_6 := regOps C78_15
def C78_16 := cr C78_14
def C78_17 := cl C78_16
def R78_7 := regOps C78_17
def C78_18 := cr C78_16
theorem R78_0_N : dstsOk 28 R78_0 = true := by decide +kernel
theorem R78_1_N : dstsOk 28 R78_1 = true := by decide +kernel
theorem R78_2_N : dstsOk 28 R78_2 = true := by decide +kernel
theorem R78_3_N : dstsOk 28 R78_3 = true := by decide +kernel
theorem R78_4_N : dstsOk 28 R78_4 = true := by decide +kernel
theorem R78_5_N : dstsOk 28 R78_5 = true := by decide +kernel
theorem R78_6_N : dstsOk 28 R78_6 = true := by decide +kernel
theorem R78_7_N : dstsOk 28 R78_7 = true := by decide +kernel
def DK78 (Q : Value → AW → Prop) (E : List PanicEntry → AW → Prop) (t_4 : Value) (u : ADone) (aw : AW) : Prop :=
  DefK prog 86 [] u aw (fun aw => Q t_4 aw) E
theorem DK78_ok (Q : Value → AW → Prop) (E : List PanicEntry → AW → Prop) (ρ : Env) (t_4 : Value) (u : ADone) (aw : AW) (h4 : ρ 4 = t_4) (H : DK78 Q E t_4 u aw) : RD prog f78 28 sh78 Q E u ρ [⟨.fn (.func 86) #[], #[]⟩] aw :=
  aleaves_one is86 rfl H fun aw H => by
    exact ⟨t_4, (ares_1 rfl (oneT h4)), H⟩
def S78_1 (Q : Value → AW → Prop) (E : List PanicEntry → AW → Prop)  (b_0 : Value) (t_4 : Value) (c_5 : Int) (aw : AW) : Prop :=
  appC aw 5 1 1 [.int .u8 0] (.slice none 0 0) c_5 fun v1 aw2 =>
  cpy aw2 1 v1 b_0 fun n3 aw4 =>
  cutV aw4 1 v1 0 n3 fun v17 =>
  DK78 Q E v17 .ret aw4
def S78_0 (Q : Value → AW → Prop) (E : List PanicEntry → AW → Prop)  (b_0 : Value) (n_1 : Int) (aw : AW) : Prop :=
  slen b_0 fun n19 =>
  scap b_0 fun n25 =>
  cnd (decide ((IntKind.i64.wrap (n19 + n_1)) < (IntKind.i64.wrap (2 * n25)))) (scap b_0 fun n33 =>
  S78_1 Q E  b_0 (.slice none 0 0) (IntKind.i64.wrap (2 * n33)) aw) (S78_1 Q E  b_0 (.slice none 0 0) (IntKind.i64.wrap (n19 + n_1)) aw)
theorem S78_1_ok (Q : Value → AW → Prop) (E : List PanicEntry → AW → Prop)  (ρ : Env) (b_0 : Value) (t_4 : Value) (c_5 : Int) (aw : AW) (h0 : ρ 0 = b_0) (h4 : ρ 4 = t_4) (h5 : ρ 5 = .int .i64 c_5) (H : S78_1 Q E  b_0 t_4 c_5 aw) :
    AGo prog 28 [.code C78_12] ρ [⟨.fn (.func 86) #[], #[]⟩] aw (RD prog f78 28 sh78 Q E) := by
  unfold S78_1 at H
  refine ago_seqE (rfl : C78_12 = .seq C78_13 C78_14) ?_
  refine ago_regE (rfl : C78_13 = .region 5 R78_5 false) (l := [0, 1, 2]) rfl ?_
  refine lj 20 R78_5_N rfl rfl rfl (opv_move rfl rfl h5) ?_
  refine lk_appC (dt := some 21) R78_5_N rfl rfl rfl rfl rfl rfl rfl underlying73 sz5 by5 underlying3 z5 rfl rfl rfl (by decide) (by decide) rfl rfl H fun v1 aw2 H => ?_
  refine lj 6 R78_5_N rfl rfl rfl (opv_assign rfl rfl rfl) ?_
  refine aops_nil ?_
  refine ago_seqE (rfl : C78_14 = .seq C78_15 C78_16) ?_
  refine ago_regE (rfl : C78_15 = .region 6 R78_6 false) (l := [0, 1, 2, 3]) rfl ?_
  refine lj 22 R78_6_N rfl rfl rfl (opv_move rfl rfl rfl) ?_
  refine lj 23 R78_6_N rfl rfl rfl (opv_move rfl rfl h0) ?_
  obtain ⟨q5, q6, q7, q8, q9, q10, n3, aw4, hq11, hq12, hq13, hq14, hq15, hq16, H⟩ := H
  refine lj 24 R78_6_N rfl rfl rfl (ov_cpy rfl rfl rfl rfl underlying73 sz5 rfl hq11 rfl hq12 hq13 hq14 hq15 hq16) ?_
  refine lj 7 R78_6_N rfl rfl rfl (opv_assign rfl rfl rfl) ?_
  refine aops_nil ?_
  refine ago_seqE (rfl : C78_16 = .seq C78_17 C78_18) ?_
  refine ago_regE (rfl : C78_17 = .region 7 R78_7 false) (l := [0, 1, 2, 3]) rfl ?_
  refine lj 25 R78_7_N rfl rfl rfl (opv_move rfl rfl rfl) ?_
  refine lj 26 R78_7_N rfl rfl rfl (opv_move rfl rfl rfl) ?_
  obtain ⟨v17, hq18, H⟩ := H
  refine lj 27 R78_7_N rfl rfl rfl (ov_cutV rfl rfl underlying73 sz5 rfl (bndN _ _ _) (bndS rfl) hq18) ?_
  refine lj 4 R78_7_N rfl rfl rfl (opv_assign rfl rfl rfl) ?_
  refine aops_nil ?_
  exact ago_retD (rfl : C78_18 = .ret) (DK78_ok Q E _ v17 _ _ rfl H)
theorem S78_0_ok (Q : Value → AW → Prop) (E : List PanicEntry → AW → Prop)  (ρ : Env) (b_0 : Value) (n_1 : Int) (aw : AW) (h0 : ρ 0 = b_0) (h1 : ρ 1 = .int .i64 n_1) (H : S78_0 Q E  b_0 n_1 aw) :
    AGo prog 28 [.code C78_0] ρ [] aw (RD prog f78 28 sh78 Q E) := by
  unfold S78_0 at H
  refine ago_seqE (rfl : C78_0 = .seq C78_1 C78_2) ?_
  refine ago_regE (rfl : C78_1 = .region 0 R78_0 false) (l := [0]) rfl ?_
  refine lj 4 R78_0_N rfl rfl rfl (opv_assign rfl rfl rfl) ?_
  refine aops_nil ?_
  refine ago_seqE (rfl : C78_2 = .seq C78_3 C78_4) ?_
  refine ago_regE (rfl : C78_3 = .region 1 R78_1 false) (l := [0]) rfl ?_
  refine lk_defer (dt := none) R78_1_N rfl rfl rfl rfl rfl rfl rfl rfl rfl ?_
  refine aops_nil ?_
  refine ago_seqE (rfl : C78_4 = .seq C78_5 C78_6) ?_
  refine ago_regE (rfl : C78_5 = .region 2 R78_2 false) (l := [0, 1, 2, 3, 4]) rfl ?_
  refine lj 8 R78_2_N rfl rfl rfl (opv_move rfl rfl h0) ?_
  obtain ⟨q20, l21, c22, n19, hv23, hn24, H⟩ := H
  refine lj 9 R78_2_N rfl rfl rfl (ov_len rfl rfl rfl underlying73 rfl hv23 hn24) ?_
  refine lj 10 R78_2_N rfl rfl rfl (opv_move rfl rfl h1) ?_
  refine lj 11 R78_2_N rfl rfl rfl (opv_add rfl rfl rfl rfl rfl) ?_
  refine lj 5 R78_2_N rfl rfl rfl (opv_assign rfl rfl rfl) ?_
  refine aops_nil ?_
  refine ago_seqE (rfl : C78_6 = .seq C78_7 C78_12) ?_
  refine ago_seqE (rfl : C78_7 = .seq C78_8 C78_9) ?_
  refine ago_regE (rfl : C78_8 = .region 3 R78_3 false) (l := [0, 1, 2, 3, 4]) rfl ?_
  refine lj 12 R78_3_N rfl rfl rfl (opv_move rfl rfl rfl) ?_
  refine lj 13 R78_3_N rfl rfl rfl (opv_move rfl rfl h0) ?_
  obtain ⟨q26, l27, c28, n25, hv29, hc30, hn31, H⟩ := H
  refine lj 14 R78_3_N rfl rfl rfl (ov_cap rfl rfl rfl underlying73 rfl hv29 hc30 hn31) ?_
  refine lj 15 R78_3_N rfl rfl rfl (opv_mul rfl rfl rfl rfl rfl) ?_
  refine lj 16 R78_3_N rfl rfl rfl (opv_lt rfl rfl rfl rfl rfl) ?_
  refine aops_nil ?_
  refine ago_condE  (rfl : C78_9 = .cond (.tmp 16) C78_10 C78_11) rfl rfl (fun hb32 => ?_) (fun hb32 => ?_)
  · replace H := cnd_t H hb32
    refine ago_cut (fun ρ => ρ 0 = b_0 ∧ ρ 4 = (.slice none 0 0) ∧ True) ⟨h0, rfl, trivial⟩ (fun ρ ⟨h0, h4, _⟩ => ?_)
    refine ago_regE (rfl : C78_10 = .region 4 R78_4 false) (l := [0, 1, 2, 3]) rfl ?_
    refine lj 17 R78_4_N rfl rfl rfl (opv_move rfl rfl h0) ?_
    obtain ⟨q34, l35, c36, n33, hv37, hc38, hn39, H⟩ := H
    refine lj 18 R78_4_N rfl rfl rfl (ov_cap rfl rfl rfl underlying73 rfl hv37 hc38 hn39) ?_
    refine lj 19 R78_4_N rfl rfl rfl (opv_mul rfl rfl rfl rfl rfl) ?_
    refine lj 5 R78_4_N rfl rfl rfl (opv_assign rfl rfl rfl) ?_
    refine aops_nil ?_
    exact S78_1_ok Q E  _ b_0 (.slice none 0 0) (IntKind.i64.wrap (2 * n33)) aw h0 h4 rfl H
  replace H := cnd_f H hb32
  refine ago_skipE (rfl : C78_11 = .skip) ?_
  exact S78_1_ok Q E  _ b_0 (.slice none 0 0) (IntKind.i64.wrap (n19 + n_1)) aw h0 rfl rfl H
theorem F78_ok {Q : Value → AW → Prop} {E : List PanicEntry → AW → Prop} (b_0 : Value) (n_1 : Int) (aw : AW) (H : S78_0 Q E b_0 n_1 aw) : CallP prog 78 [b_0, .int .i64 n_1] aw sh78 Q E :=
  callP_of_d func78 C78_is rfl (Nat.le_of_ble_eq_true rfl) (S78_0_ok Q E _ b_0 n_1 aw rfl rfl H)
def C86_0 := bodyOf f86
theorem C86_is : f86.body = some C86_0 := by kernel_rfl
def C86_1 := cl C86_0
def R86_0 := regOps C86_1
def C86_2 := cr C86_0
def C86_3 := cl C86_2
def R86_1 := regOps C86_3
def C86_4 := cr C86_2
theorem R86_0_N : dstsOk 3 R86_0 = true := by decide +kernel
theorem R86_1_N : dstsOk 3 R86_1 = true := by decide +kernel
def S86_0 (Q : Unit → AW → Prop) (E : List PanicEntry → AW → Prop)  (t_0 : Value) (aw : AW) : Prop :=
  nilB (.interface #[]) t_0 (.nilIface ) fun q1 =>
  cnd (!q1) (ldV aw (.pointer (some ⟨0, 0, none⟩)) fun x8 =>
  ∃ u10 z11, x8 = .iface u10 z11 ∧ E [⟨.iface u10 z11, false, false⟩] aw) (Q () aw)
theorem S86_0_ok (Q : Unit → AW → Prop) (E : List PanicEntry → AW → Prop)  (ρ : Env) (t_0 : Value) (aw : AW) (h0 : ρ 0 = t_0) (H : S86_0 Q E  t_0 aw) :
    AGo prog 3 [.inRegion R86_0 [1], .code C86_2] ρ [] aw (RR prog f86 3 sh86 Q E) := by
  unfold S86_0 at H
  refine ago_inRegion ?_
  obtain ⟨q1, hf2, hq3, H⟩ := H
  refine lj 1 R86_0_N rfl rfl rfl (ov_neNil rfl rfl underlying20 h0 hf2 hq3) ?_
  refine aops_nil ?_
  refine ago_condE  (rfl : C86_2 = .cond (.tmp 1) C86_3 C86_4) rfl rfl (fun hb4 => ?_) (fun hb4 => ?_)
  · replace H := cnd_t H hb4
    refine ago_regE (rfl : C86_3 = .region 1 R86_1 false) (l := [0, 1]) rfl ?_
    obtain ⟨b5, i6, x8, hp7, hg9, H⟩ := H
    refine lj 2 R86_1_N rfl rfl rfl (ov_ldV rfl underlying97 rfl rfl rfl hp7 hg9) ?_
    obtain ⟨u10, z11, hz12, H⟩ := H
    exact aops_panic R86_1_N rfl rfl (opp_panic rfl rfl (rfl.trans hz12)) ⟨rfl, H⟩
  replace H := cnd_f H hb4
  refine ago_skipE (rfl : C86_4 = .skip) ?_
  exact ago_nilR (r := ()) (ares_0 rfl ) rfl H
theorem F86_okD {K : ADone → AW → Prop} {E : List PanicEntry → ADone → AW → Prop}  (u : ADone) (aw : AW) (H : S86_0 (fun _ aw => K (recovers u).2 aw) (fun ch aw => E ch (recovers u).2 aw) (recovers u).1 aw) : DefP prog 86 [] u aw K E :=
  defP_of (dt := some 0) func86 C86_is rfl (Nat.le_of_ble_eq_true rfl) (.seq (.refl _)) rfl rfl rfl rfl rfl (fun d h => by injection h with h; subst h; decide) (S86_0_ok _ _ _ (recovers u).1 aw rfl H)
end
end Go.Proofs.Tryd
