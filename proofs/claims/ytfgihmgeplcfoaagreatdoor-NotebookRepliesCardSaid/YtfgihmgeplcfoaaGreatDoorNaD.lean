/- Printed by a program of the prover: what the Go functions of this seat do, in steps. -/
import Derived.Test.YtfgihmgeplcfoaaGreatDoorNaF
set_option linter.unusedSectionVars false
set_option linter.unusedSimpArgs false
set_option linter.unusedVariables false
namespace Go.Proofs.Tryz
open Go Go.Am Go.RowKit
set_option maxHeartbeats 4000000
set_option maxRecDepth 100000
noncomputable section
variable [SymE]
def C9_0 := bodyOf f9
theorem C9_is : f9.body = some C9_0 := by kernel_rfl
def C9_1 := cl C9_0
def R9_0 := regOps C9_1
def C9_2 := cr C9_0
def C9_3 := cl C9_2
def C9_4 := cl C9_3
def R9_1 := regOps C9_4
def C9_5 := cr C9_3
def C9_6 := cl C9_5
def C9_7 := cl C9_6
def R9_2 := regOps C9_7
def C9_8 := cr C9_6
def C9_9 := cr C9_5
def C9_10 := cr C9_2
def C9_11 := cl C9_10
def C9_12 := cl C9_11
def R9_3 := regOps C9_12
def C9_13 := cr C9_11
def C9_14 := cl C9_13
def C9_15 := cl C9_14
def C9_16 := cl C9_15
def C9_17 := cl C9_16
def R9_4 := regOps C9_17
def C9_18 := cr C9_16
def C9_19 := cl C9_18
def C9_20 := cr C9_18
def C9_21 := cr C9_15
def C9_22 := cl C9_21
def C9_23 := cl C9_22
def C9_24 := cl C9_23
def R9_6 := regOps C9_24
def C9_25 := cr C9_23
def C9_26 := cl C9_25
def C9_27 := cl C9_26
def R9_7 := regOps C9_27
def C9_28 := cr C9_26
def C9_29 := cr C9_25
def C9_30 := cr C9_21
def R9_5 := regOps C9_30
def C9_31 := cr C9_10
def C9_32 := cl C9_31
def C9_33 := cl C9_32
def R9_8 := regOps C9_33
def C9_34 := cr C9_32
def C9_35 := cl C9_34
def C9_36 := cl C9_35
def C9_37 := cl C9_36
def C9_38 := cl C9_37
def R9_9 := regOps C9_38
def C9_39 := cr C9_37
def C9_40 := cl C9_39
def C9_41 := cr C9_39
def C9_42 := cr C9_36
def C9_43 := cl C9_42
def C9_44 := cl C9_43
def C9_45 := cl C9_44
def R9_11 := regOps C9_45
def C9_46 := cr C9_44
def C9_47 := cl C9_46
def C9_48 := cl C9_47
def R9_12 := regOps C9_48
def C9_49 := cr C9_47
def C9_50 := cr C9_46
def C9_51 := cr C9_42
def R9_10 := regOps C9_51
def C9_52 := cr C9_31
def C9_53 := cl C9_52
def R9_13 := regOps C9_53
def C9_54 := cr C9_52
theorem R9_0_N : dstsOk 87 R9_0 = true := by decide +kernel
theorem R9_1_N : dstsOk 87 R9_1 = true := by decide +kernel
theorem R9_2_N : dstsOk 87 R9_2 = true := by decide +kernel
theorem R9_3_N : dstsOk 87 R9_3 = true := by decide +kernel
theorem R9_4_N : dstsOk 87 R9_4 = true := by decide +kernel
theorem R9_6_N : dstsOk 87 R9_6 = true := by decide +kernel
theorem R9_6_O : linOk R9_6 [0, 1, 2, 3, 4, 5, 6, 7, 8, 9, 10] [] = true := by decide +kernel
theorem R9_7_N : dstsOk 87 R9_7 = true := by decide +kernel
theorem R9_5_N : dstsOk 87 R9_5 = true := by decide +kernel
theorem R9_8_N : dstsOk 87 R9_8 = true := by decide +kernel
theorem R9_9_N : dstsOk 87 R9_9 = true := by decide +kernel
theorem R9_11_N : dstsOk 87 R9_11 = true := by decide +kernel
theorem R9_11_O : linOk R9_11 [0, 1, 2, 3, 4, 5, 6, 7, 8, 9, 10] [] = true := by decide +kernel
theorem R9_12_N : dstsOk 87 R9_12 = true := by decide +kernel
theorem R9_10_N : dstsOk 87 R9_10 = true := by decide +kernel
theorem R9_13_N : dstsOk 87 R9_13 = true := by decide +kernel
def S9_2s (Q : Bool → AW → Prop) (E : List PanicEntry → AW → Prop)  (nx2 : Value → Value → Int → AW → Prop) (a_2 : Value) (b_3 : Value) (i_6 : Int) (aw : AW) : Prop :=
  fldA a_2 5 fun p1 =>
  ldV aw p1 fun x9 =>
  slen x9 fun n11 =>
  cnd (decide (i_6 < n11)) (fldA a_2 5 fun p18 =>
  ldV aw p18 fun x26 =>
  ixS x26 i_6 2 fun p28 =>
  ptr p28 fun b37 i38 =>
  gB aw b37 i38 fun c40 =>
  gI .i64 aw b37 (i38 + 1) fun c41 =>
  fldA b_3 5 fun p44 =>
  ldV aw p44 fun x52 =>
  ixS x52 i_6 2 fun p54 =>
  ptr p54 fun b63 i64 =>
  gB aw b63 i64 fun c66 =>
  gI .i64 aw b63 (i64 + 1) fun c67 =>
  cnd (!(decide (c40 = c66) && (decide (c41 = c67) && (true)))) (Q false aw) (nx2 a_2 b_3 (IntKind.i64.wrap (i_6 + 1)) aw)) (Q true aw)
def S9_2 (Q : Bool → AW → Prop) (E : List PanicEntry → AW → Prop)  : Nat → Value → Value → Int → AW → Prop
  | 0 => fun _ _ _ _ => False
  | n + 1 => S9_2s Q E  (S9_2 Q E  n)
def S9_1s (Q : Bool → AW → Prop) (E : List PanicEntry → AW → Prop)  (nx1 : Value → Value → Int → AW → Prop) (a_2 : Value) (b_3 : Value) (i_5 : Int) (aw : AW) : Prop :=
  fldA a_2 3 fun p71 =>
  ldV aw p71 fun x79 =>
  slen x79 fun n81 =>
  cnd (decide (i_5 < n81)) (fldA a_2 3 fun p88 =>
  ldV aw p88 fun x96 =>
  ixS x96 i_5 3 fun p98 =>
  ptr p98 fun b107 i108 =>
  gS aw b107 i108 fun c110 =>
  gS aw b107 (i108 + 1) fun c111 =>
  gS aw b107 (i108 + 2) fun c112 =>
  fldA b_3 3 fun p116 =>
  ldV aw p116 fun x124 =>
  ixS x124 i_5 3 fun p126 =>
  ptr p126 fun b135 i136 =>
  gS aw b135 i136 fun c138 =>
  gS aw b135 (i136 + 1) fun c139 =>
  gS aw b135 (i136 + 2) fun c140 =>
  cnd (!(decide (c110 = c138) && (decide (c111 = c139) && (decide (c112 = c140) && (true))))) (Q false aw) (nx1 a_2 b_3 (IntKind.i64.wrap (i_5 + 1)) aw)) (∃ n, S9_2 Q E  n a_2 b_3 0 aw)
def S9_1 (Q : Bool → AW → Prop) (E : List PanicEntry → AW → Prop)  : Nat → Value → Value → Int → AW → Prop
  | 0 => fun _ _ _ _ => False
  | n + 1 => S9_1s Q E  (S9_1 Q E  n)
def S9_0 (Q : Bool → AW → Prop) (E : List PanicEntry → AW → Prop)  (a_0_0 : Int) (a_0_1 : Int) (a_0_2 : ByteArray) (a_0_3 : Value) (a_0_4 : ByteArray) (a_0_5 : Value) (b_1_0 : Int) (b_1_1 : Int) (b_1_2 : ByteArray) (b_1_3 : Value) (b_1_4 : ByteArray) (b_1_5 : Value) (aw : AW) : Prop :=
  alc aw [.int .i64 a_0_0, .int .i64 a_0_1, .string a_0_2, a_0_3, .string a_0_4, a_0_5] 26 0 fun p145 aw146 =>
  alc aw146 [.int .i64 b_1_0, .int .i64 b_1_1, .string b_1_2, b_1_3, .string b_1_4, b_1_5] 26 0 fun p149 aw150 =>
  fldA p145 0 fun p153 =>
  ldI .i64 aw150 p153 fun x161 =>
  fldA p149 0 fun p163 =>
  ldI .i64 aw150 p163 fun x171 =>
  cnd (!decide (x161 = x171)) (Q false aw150) (fldA p145 1 fun p175 =>
  ldI .i64 aw150 p175 fun x183 =>
  fldA p149 1 fun p185 =>
  ldI .i64 aw150 p185 fun x193 =>
  cnd (!decide (x183 = x193)) (Q false aw150) (fldA p145 2 fun p197 =>
  ldS aw150 p197 fun x205 =>
  fldA p149 2 fun p207 =>
  ldS aw150 p207 fun x215 =>
  cnd (!decide (x205 = x215)) (Q false aw150) (fldA p145 4 fun p219 =>
  ldS aw150 p219 fun x227 =>
  fldA p149 4 fun p229 =>
  ldS aw150 p229 fun x237 =>
  cnd (!decide (x227 = x237)) (Q false aw150) (fldA p145 3 fun p241 =>
  ldV aw150 p241 fun x249 =>
  slen x249 fun n251 =>
  fldA p149 3 fun p257 =>
  ldV aw150 p257 fun x265 =>
  slen x265 fun n267 =>
  cnd (!decide (n251 = n267)) (Q false aw150) (fldA p145 5 fun p275 =>
  ldV aw150 p275 fun x283 =>
  slen x283 fun n285 =>
  fldA p149 5 fun p291 =>
  ldV aw150 p291 fun x299 =>
  slen x299 fun n301 =>
  cnd (!decide (n285 = n301)) (Q false aw150) (∃ n, S9_1 Q E  n p145 p149 0 aw150))))))
theorem S9_2s_ok (Q : Bool → AW → Prop) (E : List PanicEntry → AW → Prop)  (nx2 : Value → Value → Int → AW → Prop) (L2 : ∀ (ρ : Env) (a_2 : Value) (b_3 : Value) (i_6 : Int) (aw : AW) (h2 : ρ 2 = a_2) (h3 : ρ 3 = b_3) (h6 : ρ 6 = .int .i64 i_6), nx2 a_2 b_3 i_6 aw → AGo prog 87 [.code C9_36, .inLoop C9_36, .inBlock 2, .code C9_52] ρ [] aw (RR prog f9 87 sh9 Q E)) (ρ : Env) (a_2 : Value) (b_3 : Value) (i_6 : Int) (aw : AW) (h2 : ρ 2 = a_2) (h3 : ρ 3 = b_3) (h6 : ρ 6 = .int .i64 i_6) (H : S9_2s Q E  nx2 a_2 b_3 i_6 aw) :
    AGo prog 87 [.code C9_36, .inLoop C9_36, .inBlock 2, .code C9_52] ρ [] aw (RR prog f9 87 sh9 Q E) := by
  unfold S9_2s at H
  refine ago_seqE (rfl : C9_36 = .seq C9_37 C9_42) ?_
  refine ago_seqE (rfl : C9_37 = .seq C9_38 C9_39) ?_
  refine ago_regE (rfl : C9_38 = .region 9 R9_9 false) (l := [0, 1, 2, 3, 4]) rfl ?_
  refine lj 69 R9_9_N rfl rfl rfl (opv_move rfl rfl h6) ?_
  obtain ⟨b2, i3, p1, hp4, hv5, H⟩ := H
  refine lj 70 R9_9_N rfl rfl rfl (ov_fldA rfl rfl underlying26 rfl sz24 (by decide) h2 hp4 rfl hv5) ?_
  obtain ⟨b6, i7, x9, hp8, hg10, H⟩ := H
  refine lj 71 R9_9_N rfl rfl rfl (ov_ldV rfl underlying24 rfl rfl rfl hp8 hg10) ?_
  obtain ⟨q12, l13, c14, n11, hv15, hn16, H⟩ := H
  refine lj 72 R9_9_N rfl rfl rfl (ov_len rfl rfl rfl underlying24 rfl hv15 hn16) ?_
  refine lj 73 R9_9_N rfl rfl rfl (opv_lt rfl rfl rfl rfl rfl) ?_
  refine aops_nil ?_
  refine ago_condE  (rfl : C9_39 = .cond (.tmp 73) C9_40 C9_41) rfl rfl (fun hb17 => ?_) (fun hb17 => ?_)
  · replace H := cnd_t H hb17
    refine ago_skipE (rfl : C9_40 = .skip) ?_
    refine ago_seqE (rfl : C9_42 = .seq C9_43 C9_51) ?_
    refine ago_blockE (rfl : C9_43 = .block 3 C9_44) ?_
    refine ago_seqE (rfl : C9_44 = .seq C9_45 C9_46) ?_
    obtain ⟨b19, i20, p18, hp21, hv22, H⟩ := H
    obtain ⟨b23, i24, x26, hp25, hg27, H⟩ := H
    obtain ⟨b29, i30, l31, c32, p28, hp33, h034, hj35, hv36, H⟩ := H
    obtain ⟨b37, i38, hp39, c40, hg42, c41, hg43, H⟩ := H
    obtain ⟨b45, i46, p44, hp47, hv48, H⟩ := H
    obtain ⟨b49, i50, x52, hp51, hg53, H⟩ := H
    obtain ⟨b55, i56, l57, c58, p54, hp59, h060, hj61, hv62, H⟩ := H
    obtain ⟨b63, i64, hp65, c66, hg68, c67, hg69, H⟩ := H
    refine ago_drawH (p := [0, 1, 2, 3, 4, 5, 6, 7, 8, 9, 10]) (tl := []) (hv := [(0, p18), (1, x26), (2, Value.int .i64 i_6), (3, p28), (4, Value.agg #[.bool c40, .int .i64 c41]), (5, p44), (6, x52), (7, Value.int .i64 i_6), (8, p54), (9, Value.agg #[.bool c66, .int .i64 c67]), (10, Value.bool (!(decide (c40 = c66) && (decide (c41 = c67) && (true)))))]) (rfl : C9_45 = .region 11 R9_11 true) mixed R9_11_N R9_11_O rfl (pv_cons rfl (pv_cons rfl (pv_cons rfl (pv_cons rfl (pv_cons rfl (pv_cons rfl (pv_cons rfl (pv_cons rfl (pv_cons rfl (pv_cons rfl (pv_cons rfl (pv_nil _))))))))))))
      (fc 76 p18 (hd_v rfl fun ρ hρ => ⟨rfl, ov_fldA rfl rfl underlying26 rfl sz24 (by decide) ((hρ 2 (lmem rfl)).trans h2) hp21 rfl hv22⟩) rfl rfl
      (fc 77 x26 (hd_v rfl fun ρ hρ => ⟨rfl, ov_ldV rfl underlying24 rfl rfl ((hρ 76 (lmem rfl)).trans rfl) hp25 hg27⟩) rfl rfl
      (fc 78 (.int .i64 i_6) (hd_v rfl fun ρ hρ => ⟨rfl, opv_move rfl rfl ((hρ 6 (lmem rfl)).trans h6)⟩) rfl rfl
      (fc 79 p28 (hd_v rfl fun ρ hρ => ⟨rfl, ov_ixS rfl rfl rfl underlying24 sz52 ((hρ 77 (lmem rfl)).trans rfl) ((hρ 78 (lmem rfl)).trans rfl) hp33 h034 hj35 hv36⟩) rfl rfl
      (fc 80 (.agg #[.bool c40, .int .i64 c41]) (hd_v rfl fun ρ hρ => ⟨rfl, ov_ldN rfl underlying52 rfl sz52 rfl ((hρ 79 (lmem rfl)).trans rfl) hp39 (getN_cons hg42 (getN_cons hg43 getN_nil))⟩) rfl rfl
      (fc 81 p44 (hd_v rfl fun ρ hρ => ⟨rfl, ov_fldA rfl rfl underlying26 rfl sz24 (by decide) ((hρ 3 (lmem rfl)).trans h3) hp47 rfl hv48⟩) rfl rfl
      (fc 82 x52 (hd_v rfl fun ρ hρ => ⟨rfl, ov_ldV rfl underlying24 rfl rfl ((hρ 81 (lmem rfl)).trans rfl) hp51 hg53⟩) rfl rfl
      (fc 83 (.int .i64 i_6) (hd_v rfl fun ρ hρ => ⟨rfl, opv_move rfl rfl ((hρ 6 (lmem rfl)).trans h6)⟩) rfl rfl
      (fc 84 p54 (hd_v rfl fun ρ hρ => ⟨rfl, ov_ixS rfl rfl rfl underlying24 sz52 ((hρ 82 (lmem rfl)).trans rfl) ((hρ 83 (lmem rfl)).trans rfl) hp59 h060 hj61 hv62⟩) rfl rfl
      (fc 85 (.agg #[.bool c66, .int .i64 c67]) (hd_v rfl fun ρ hρ => ⟨rfl, ov_ldN rfl underlying52 rfl sz52 rfl ((hρ 84 (lmem rfl)).trans rfl) hp65 (getN_cons hg68 (getN_cons hg69 getN_nil))⟩) rfl rfl
      (fc 86 (.bool (!(decide (c40 = c66) && (decide (c41 = c67) && (true))))) (hd_v rfl fun ρ hρ => ⟨rfl, opv_binP rfl rfl rfl ((hρ 80 (lmem rfl)).trans rfl) ((hρ 85 (lmem rfl)).trans rfl) rfl rfl (fun w => nest52 _ _ _ _ _ _ w) rfl⟩) rfl rfl
      ffn))))))))))) ?_
    refine lt_end ?_
    refine ago_condE  (rfl : C9_46 = .cond (.tmp 86) C9_47 C9_50) rfl rfl (fun hb70 => ?_) (fun hb70 => ?_)
    · replace H := cnd_t H hb70
      refine ago_seqE (rfl : C9_47 = .seq C9_48 C9_49) ?_
      refine ago_regE (rfl : C9_48 = .region 12 R9_12 false) (l := [0]) rfl ?_
      refine lj 4 R9_12_N rfl rfl rfl (opv_assign rfl rfl rfl) ?_
      refine aops_nil ?_
      exact ago_retE (rfl : C9_49 = .ret) (r := false) (ares_1 rfl (oneT rfl)) rfl H
    replace H := cnd_f H hb70
    refine ago_skipE (rfl : C9_50 = .skip) ?_
    refine ago_inBlock ?_
    refine ago_cut (fun ρ => ρ 2 = a_2 ∧ ρ 3 = b_3 ∧ ρ 6 = .int .i64 i_6 ∧ True) ⟨h2, h3, h6, trivial⟩ (fun ρ ⟨h2, h3, h6, _⟩ => ?_)
    refine ago_regE (rfl : C9_51 = .region 10 R9_10 false) (l := [0, 1, 2]) rfl ?_
    refine lj 74 R9_10_N rfl rfl rfl (opv_move rfl rfl h6) ?_
    refine lj 75 R9_10_N rfl rfl rfl (opv_add rfl rfl rfl rfl rfl) ?_
    refine lj 6 R9_10_N rfl rfl rfl (opv_assign rfl rfl rfl) ?_
    refine aops_nil ?_
    refine ago_inLoop ?_
    exact L2 _ a_2 b_3 (IntKind.i64.wrap (i_6 + 1)) aw h2 h3 rfl H
  replace H := cnd_f H hb17
  refine ago_exitE (rfl : C9_41 = .exit 2) rfl ?_
  refine ago_seqE (rfl : C9_52 = .seq C9_53 C9_54) ?_
  refine ago_regE (rfl : C9_53 = .region 13 R9_13 false) (l := [0]) rfl ?_
  refine lj 4 R9_13_N rfl rfl rfl (opv_assign rfl rfl rfl) ?_
  refine aops_nil ?_
  exact ago_retE (rfl : C9_54 = .ret) (r := true) (ares_1 rfl (oneT rfl)) rfl H
theorem S9_2_ok (Q : Bool → AW → Prop) (E : List PanicEntry → AW → Prop)  : ∀ (n : Nat) (ρ : Env) (a_2 : Value) (b_3 : Value) (i_6 : Int) (aw : AW) (h2 : ρ 2 = a_2) (h3 : ρ 3 = b_3) (h6 : ρ 6 = .int .i64 i_6), S9_2 Q E  n a_2 b_3 i_6 aw →
    AGo prog 87 [.code C9_36, .inLoop C9_36, .inBlock 2, .code C9_52] ρ [] aw (RR prog f9 87 sh9 Q E)
  | 0, _, _, _, _, _, _, _, _ => fun H => H.elim
  | n + 1, ρ, a_2, b_3, i_6, aw, h2, h3, h6 => fun H => S9_2s_ok Q E  _ (S9_2_ok Q E  n) ρ a_2 b_3 i_6 aw h2 h3 h6 H
theorem S9_1s_ok (Q : Bool → AW → Prop) (E : List PanicEntry → AW → Prop)  (nx1 : Value → Value → Int → AW → Prop) (L1 : ∀ (ρ : Env) (a_2 : Value) (b_3 : Value) (i_5 : Int) (aw : AW) (h2 : ρ 2 = a_2) (h3 : ρ 3 = b_3) (h5 : ρ 5 = .int .i64 i_5), nx1 a_2 b_3 i_5 aw → AGo prog 87 [.code C9_15, .inLoop C9_15, .inBlock 0, .code C9_31] ρ [] aw (RR prog f9 87 sh9 Q E)) (ρ : Env) (a_2 : Value) (b_3 : Value) (i_5 : Int) (aw : AW) (h2 : ρ 2 = a_2) (h3 : ρ 3 = b_3) (h5 : ρ 5 = .int .i64 i_5) (H : S9_1s Q E  nx1 a_2 b_3 i_5 aw) :
    AGo prog 87 [.code C9_15, .inLoop C9_15, .inBlock 0, .code C9_31] ρ [] aw (RR prog f9 87 sh9 Q E) := by
  unfold S9_1s at H
  refine ago_seqE (rfl : C9_15 = .seq C9_16 C9_21) ?_
  refine ago_seqE (rfl : C9_16 = .seq C9_17 C9_18) ?_
  refine ago_regE (rfl : C9_17 = .region 4 R9_4 false) (l := [0, 1, 2, 3, 4]) rfl ?_
  refine lj 51 R9_4_N rfl rfl rfl (opv_move rfl rfl h5) ?_
  obtain ⟨b72, i73, p71, hp74, hv75, H⟩ := H
  refine lj 52 R9_4_N rfl rfl rfl (ov_fldA rfl rfl underlying26 rfl sz23 (by decide) h2 hp74 rfl hv75) ?_
  obtain ⟨b76, i77, x79, hp78, hg80, H⟩ := H
  refine lj 53 R9_4_N rfl rfl rfl (ov_ldV rfl underlying23 rfl rfl rfl hp78 hg80) ?_
  obtain ⟨q82, l83, c84, n81, hv85, hn86, H⟩ := H
  refine lj 54 R9_4_N rfl rfl rfl (ov_len rfl rfl rfl underlying23 rfl hv85 hn86) ?_
  refine lj 55 R9_4_N rfl rfl rfl (opv_lt rfl rfl rfl rfl rfl) ?_
  refine aops_nil ?_
  refine ago_condE  (rfl : C9_18 = .cond (.tmp 55) C9_19 C9_20) rfl rfl (fun hb87 => ?_) (fun hb87 => ?_)
  · replace H := cnd_t H hb87
    refine ago_skipE (rfl : C9_19 = .skip) ?_
    refine ago_seqE (rfl : C9_21 = .seq C9_22 C9_30) ?_
    refine ago_blockE (rfl : C9_22 = .block 1 C9_23) ?_
    refine ago_seqE (rfl : C9_23 = .seq C9_24 C9_25) ?_
    obtain ⟨b89, i90, p88, hp91, hv92, H⟩ := H
    obtain ⟨b93, i94, x96, hp95, hg97, H⟩ := H
    obtain ⟨b99, i100, l101, c102, p98, hp103, h0104, hj105, hv106, H⟩ := H
    obtain ⟨b107, i108, hp109, c110, hg113, c111, hg114, c112, hg115, H⟩ := H
    obtain ⟨b117, i118, p116, hp119, hv120, H⟩ := H
    obtain ⟨b121, i122, x124, hp123, hg125, H⟩ := H
    obtain ⟨b127, i128, l129, c130, p126, hp131, h0132, hj133, hv134, H⟩ := H
    obtain ⟨b135, i136, hp137, c138, hg141, c139, hg142, c140, hg143, H⟩ := H
    refine ago_drawH (p := [0, 1, 2, 3, 4, 5, 6, 7, 8, 9, 10]) (tl := []) (hv := [(0, p88), (1, x96), (2, Value.int .i64 i_5), (3, p98), (4, Value.agg #[.string c110, .string c111, .string c112]), (5, p116), (6, x124), (7, Value.int .i64 i_5), (8, p126), (9, Value.agg #[.string c138, .string c139, .string c140]), (10, Value.bool (!(decide (c110 = c138) && (decide (c111 = c139) && (decide (c112 = c140) && (true))))))]) (rfl : C9_24 = .region 6 R9_6 true) mixed R9_6_N R9_6_O rfl (pv_cons rfl (pv_cons rfl (pv_cons rfl (pv_cons rfl (pv_cons rfl (pv_cons rfl (pv_cons rfl (pv_cons rfl (pv_cons rfl (pv_cons rfl (pv_cons rfl (pv_nil _))))))))))))
      (fc 58 p88 (hd_v rfl fun ρ hρ => ⟨rfl, ov_fldA rfl rfl underlying26 rfl sz23 (by decide) ((hρ 2 (lmem rfl)).trans h2) hp91 rfl hv92⟩) rfl rfl
      (fc 59 x96 (hd_v rfl fun ρ hρ => ⟨rfl, ov_ldV rfl underlying23 rfl rfl ((hρ 58 (lmem rfl)).trans rfl) hp95 hg97⟩) rfl rfl
      (fc 60 (.int .i64 i_5) (hd_v rfl fun ρ hρ => ⟨rfl, opv_move rfl rfl ((hρ 5 (lmem rfl)).trans h5)⟩) rfl rfl
      (fc 61 p98 (hd_v rfl fun ρ hρ => ⟨rfl, ov_ixS rfl rfl rfl underlying23 sz29 ((hρ 59 (lmem rfl)).trans rfl) ((hρ 60 (lmem rfl)).trans rfl) hp103 h0104 hj105 hv106⟩) rfl rfl
      (fc 62 (.agg #[.string c110, .string c111, .string c112]) (hd_v rfl fun ρ hρ => ⟨rfl, ov_ldN rfl underlying29 rfl sz29 rfl ((hρ 61 (lmem rfl)).trans rfl) hp109 (getN_cons hg113 (getN_cons hg114 (getN_cons hg115 getN_nil)))⟩) rfl rfl
      (fc 63 p116 (hd_v rfl fun ρ hρ => ⟨rfl, ov_fldA rfl rfl underlying26 rfl sz23 (by decide) ((hρ 3 (lmem rfl)).trans h3) hp119 rfl hv120⟩) rfl rfl
      (fc 64 x124 (hd_v rfl fun ρ hρ => ⟨rfl, ov_ldV rfl underlying23 rfl rfl ((hρ 63 (lmem rfl)).trans rfl) hp123 hg125⟩) rfl rfl
      (fc 65 (.int .i64 i_5) (hd_v rfl fun ρ hρ => ⟨rfl, opv_move rfl rfl ((hρ 5 (lmem rfl)).trans h5)⟩) rfl rfl
      (fc 66 p126 (hd_v rfl fun ρ hρ => ⟨rfl, ov_ixS rfl rfl rfl underlying23 sz29 ((hρ 64 (lmem rfl)).trans rfl) ((hρ 65 (lmem rfl)).trans rfl) hp131 h0132 hj133 hv134⟩) rfl rfl
      (fc 67 (.agg #[.string c138, .string c139, .string c140]) (hd_v rfl fun ρ hρ => ⟨rfl, ov_ldN rfl underlying29 rfl sz29 rfl ((hρ 66 (lmem rfl)).trans rfl) hp137 (getN_cons hg141 (getN_cons hg142 (getN_cons hg143 getN_nil)))⟩) rfl rfl
      (fc 68 (.bool (!(decide (c110 = c138) && (decide (c111 = c139) && (decide (c112 = c140) && (true)))))) (hd_v rfl fun ρ hρ => ⟨rfl, opv_binP rfl rfl rfl ((hρ 62 (lmem rfl)).trans rfl) ((hρ 67 (lmem rfl)).trans rfl) rfl rfl (fun w => nest29 _ _ _ _ _ _ _ _ w) rfl⟩) rfl rfl
      ffn))))))))))) ?_
    refine lt_end ?_
    refine ago_condE  (rfl : C9_25 = .cond (.tmp 68) C9_26 C9_29) rfl rfl (fun hb144 => ?_) (fun hb144 => ?_)
    · replace H := cnd_t H hb144
      refine ago_seqE (rfl : C9_26 = .seq C9_27 C9_28) ?_
      refine ago_regE (rfl : C9_27 = .region 7 R9_7 false) (l := [0]) rfl ?_
      refine lj 4 R9_7_N rfl rfl rfl (opv_assign rfl rfl rfl) ?_
      refine aops_nil ?_
      exact ago_retE (rfl : C9_28 = .ret) (r := false) (ares_1 rfl (oneT rfl)) rfl H
    replace H := cnd_f H hb144
    refine ago_skipE (rfl : C9_29 = .skip) ?_
    refine ago_inBlock ?_
    refine ago_cut (fun ρ => ρ 2 = a_2 ∧ ρ 3 = b_3 ∧ ρ 5 = .int .i64 i_5 ∧ True) ⟨h2, h3, h5, trivial⟩ (fun ρ ⟨h2, h3, h5, _⟩ => ?_)
    refine ago_regE (rfl : C9_30 = .region 5 R9_5 false) (l := [0, 1, 2]) rfl ?_
    refine lj 56 R9_5_N rfl rfl rfl (opv_move rfl rfl h5) ?_
    refine lj 57 R9_5_N rfl rfl rfl (opv_add rfl rfl rfl rfl rfl) ?_
    refine lj 5 R9_5_N rfl rfl rfl (opv_assign rfl rfl rfl) ?_
    refine aops_nil ?_
    refine ago_inLoop ?_
    exact L1 _ a_2 b_3 (IntKind.i64.wrap (i_5 + 1)) aw h2 h3 rfl H
  replace H := cnd_f H hb87
  refine ago_exitE (rfl : C9_20 = .exit 0) rfl ?_
  refine ago_seqE (rfl : C9_31 = .seq C9_32 C9_52) ?_
  refine ago_seqE (rfl : C9_32 = .seq C9_33 C9_34) ?_
  refine ago_regE (rfl : C9_33 = .region 8 R9_8 false) (l := [0]) rfl ?_
  refine lj 6 R9_8_N rfl rfl rfl (opv_assign rfl rfl rfl) ?_
  refine aops_nil ?_
  refine ago_blockE (rfl : C9_34 = .block 2 C9_35) ?_
  refine ago_loopE (rfl : C9_35 = .loop C9_36) ?_
  obtain ⟨n, H⟩ := H
  exact S9_2_ok Q E  n _ a_2 b_3 0 aw h2 h3 rfl H
theorem S9_1_ok (Q : Bool → AW → Prop) (E : List PanicEntry → AW → Prop)  : ∀ (n : Nat) (ρ : Env) (a_2 : Value) (b_3 : Value) (i_5 : Int) (aw : AW) (h2 : ρ 2 = a_2) (h3 : ρ 3 = b_3) (h5 : ρ 5 = .int .i64 i_5), S9_1 Q E  n a_2 b_3 i_5 aw →
    AGo prog 87 [.code C9_15, .inLoop C9_15, .inBlock 0, .code C9_31] ρ [] aw (RR prog f9 87 sh9 Q E)
  | 0, _, _, _, _, _, _, _, _ => fun H => H.elim
  | n + 1, ρ, a_2, b_3, i_5, aw, h2, h3, h5 => fun H => S9_1s_ok Q E  _ (S9_1_ok Q E  n) ρ a_2 b_3 i_5 aw h2 h3 h5 H
theorem S9_0_ok (Q : Bool → AW → Prop) (E : List PanicEntry → AW → Prop)  (ρ : Env) (a_0_0 : Int) (a_0_1 : Int) (a_0_2 : ByteArray) (a_0_3 : Value) (a_0_4 : ByteArray) (a_0_5 : Value) (b_1_0 : Int) (b_1_1 : Int) (b_1_2 : ByteArray) (b_1_3 : Value) (b_1_4 : ByteArray) (b_1_5 : Value) (aw : AW) (h0 : ρ 0 = .agg #[.int .i64 a_0_0, .int .i64 a_0_1, .string a_0_2, a_0_3, .string a_0_4, a_0_5]) (h1 : ρ 1 = .agg #[.int .i64 b_1_0, .int .i64 b_1_1, .string b_1_2, b_1_3, .string b_1_4, b_1_5]) (H : S9_0 Q E  a_0_0 a_0_1 a_0_2 a_0_3 a_0_4 a_0_5 b_1_0 b_1_1 b_1_2 b_1_3 b_1_4 b_1_5 aw) :
    AGo prog 87 [.code C9_0] ρ [] aw (RR prog f9 87 sh9 Q E) := by
  unfold S9_0 at H
  refine ago_seqE (rfl : C9_0 = .seq C9_1 C9_2) ?_
  refine ago_regE (rfl : C9_1 = .region 0 R9_0 false) (l := [0, 1, 2]) rfl ?_
  obtain ⟨p145, aw146, hp147, ha148, H⟩ := H
  refine lj 2 R9_0_N rfl rfl rfl (ov_box rfl rfl h0 rfl hp147 ha148) ?_
  obtain ⟨p149, aw150, hp151, ha152, H⟩ := H
  refine lj 3 R9_0_N rfl rfl rfl (ov_box rfl rfl h1 rfl hp151 ha152) ?_
  refine lj 4 R9_0_N rfl rfl rfl (opv_assign rfl rfl rfl) ?_
  refine aops_nil ?_
  refine ago_seqE (rfl : C9_2 = .seq C9_3 C9_10) ?_
  refine ago_seqE (rfl : C9_3 = .seq C9_4 C9_5) ?_
  refine ago_regE (rfl : C9_4 = .region 1 R9_1 false) (l := [0, 1, 2, 3, 4, 5, 6, 7, 8, 9, 10, 11, 12, 13, 14, 15, 16, 17, 18, 19, 20, 21, 22, 23, 24, 25, 26, 27, 28, 29, 30, 31, 32, 33, 34, 35, 36, 37, 38, 39, 40, 41, 42, 43]) rfl ?_
  obtain ⟨b154, i155, p153, hp156, hv157, H⟩ := H
  refine lj 7 R9_1_N rfl rfl rfl (ov_fldA rfl rfl underlying26 rfl sz22 (by decide) rfl hp156 rfl hv157) ?_
  obtain ⟨b158, i159, x161, hp160, hg162, H⟩ := H
  refine lj 8 R9_1_N rfl rfl rfl (ov_ldI rfl underlying22 rfl rfl hp160 hg162) ?_
  obtain ⟨b164, i165, p163, hp166, hv167, H⟩ := H
  refine lj 9 R9_1_N rfl rfl rfl (ov_fldA rfl rfl underlying26 rfl sz22 (by decide) rfl hp166 rfl hv167) ?_
  obtain ⟨b168, i169, x171, hp170, hg172, H⟩ := H
  refine lj 10 R9_1_N rfl rfl rfl (ov_ldI rfl underlying22 rfl rfl hp170 hg172) ?_
  refine lj 11 R9_1_N rfl rfl rfl (opv_neI rfl rfl rfl rfl rfl) ?_
  refine lj 12 R9_1_N rfl rfl rfl (opv_move rfl rfl rfl) ?_
  rcases Bool.eq_false_or_eq_true (!decide (x161 = x171)) with hb173 | hb173
  · replace H := cnd_t H hb173
    refine ls 13 R9_1_N rfl rfl ⟨_, rfl, .inl ⟨_, rfl, gq hb173 rfl⟩⟩ ?_
    refine ls 14 R9_1_N rfl rfl ⟨_, rfl, .inl ⟨_, rfl, gq hb173 rfl⟩⟩ ?_
    refine ls 15 R9_1_N rfl rfl ⟨_, rfl, .inl ⟨_, rfl, gq hb173 rfl⟩⟩ ?_
    refine ls 16 R9_1_N rfl rfl ⟨_, rfl, .inl ⟨_, rfl, gq hb173 rfl⟩⟩ ?_
    refine ls 17 R9_1_N rfl rfl ⟨_, rfl, .inl ⟨_, rfl, gq hb173 rfl⟩⟩ ?_
    refine lj 18 R9_1_N rfl rfl rfl (ov_pickT rfl rfl rfl rfl rfl hb173 rfl) ?_
    refine lj 19 R9_1_N rfl rfl rfl (opv_move rfl rfl rfl) ?_
    refine ls 20 R9_1_N rfl rfl ⟨_, rfl, .inl ⟨_, rfl, gq rfl rfl⟩⟩ ?_
    refine ls 21 R9_1_N rfl rfl ⟨_, rfl, .inl ⟨_, rfl, gq rfl rfl⟩⟩ ?_
    refine ls 22 R9_1_N rfl rfl ⟨_, rfl, .inl ⟨_, rfl, gq rfl rfl⟩⟩ ?_
    refine ls 23 R9_1_N rfl rfl ⟨_, rfl, .inl ⟨_, rfl, gq rfl rfl⟩⟩ ?_
    refine ls 24 R9_1_N rfl rfl ⟨_, rfl, .inl ⟨_, rfl, gq rfl rfl⟩⟩ ?_
    refine lj 25 R9_1_N rfl rfl rfl (ov_pickT rfl rfl rfl rfl rfl rfl rfl) ?_
    refine lj 26 R9_1_N rfl rfl rfl (opv_move rfl rfl rfl) ?_
    refine ls 27 R9_1_N rfl rfl ⟨_, rfl, .inl ⟨_, rfl, gq rfl rfl⟩⟩ ?_
    refine ls 28 R9_1_N rfl rfl ⟨_, rfl, .inl ⟨_, rfl, gq rfl rfl⟩⟩ ?_
    refine ls 29 R9_1_N rfl rfl ⟨_, rfl, .inl ⟨_, rfl, gq rfl rfl⟩⟩ ?_
    refine ls 30 R9_1_N rfl rfl ⟨_, rfl, .inl ⟨_, rfl, gq rfl rfl⟩⟩ ?_
    refine ls 31 R9_1_N rfl rfl ⟨_, rfl, .inl ⟨_, rfl, gq rfl rfl⟩⟩ ?_
    refine lj 32 R9_1_N rfl rfl rfl (ov_pickT rfl rfl rfl rfl rfl rfl rfl) ?_
    refine lj 33 R9_1_N rfl rfl rfl (opv_move rfl rfl rfl) ?_
    refine ls 34 R9_1_N rfl rfl ⟨_, rfl, .inl ⟨_, rfl, gq rfl rfl⟩⟩ ?_
    refine ls 35 R9_1_N rfl rfl ⟨_, rfl, .inl ⟨_, rfl, gq rfl rfl⟩⟩ ?_
    refine ls 36 R9_1_N rfl rfl ⟨_, rfl, .inl ⟨_, rfl, gq rfl rfl⟩⟩ ?_
    refine ls 37 R9_1_N rfl rfl ⟨_, rfl, .inl ⟨_, rfl, gq rfl rfl⟩⟩ ?_
    refine ls 38 R9_1_N rfl rfl ⟨_, rfl, .inl ⟨_, rfl, gq rfl rfl⟩⟩ ?_
    refine ls 39 R9_1_N rfl rfl ⟨_, rfl, .inl ⟨_, rfl, gq rfl rfl⟩⟩ ?_
    refine ls 40 R9_1_N rfl rfl ⟨_, rfl, .inl ⟨_, rfl, gq rfl rfl⟩⟩ ?_
    refine lj 41 R9_1_N rfl rfl rfl (ov_pickT rfl rfl rfl rfl rfl rfl rfl) ?_
    refine lj 42 R9_1_N rfl rfl rfl (opv_move rfl rfl rfl) ?_
    refine ls 43 R9_1_N rfl rfl ⟨_, rfl, .inl ⟨_, rfl, gq rfl rfl⟩⟩ ?_
    refine ls 44 R9_1_N rfl rfl ⟨_, rfl, .inl ⟨_, rfl, gq rfl rfl⟩⟩ ?_
    refine ls 45 R9_1_N rfl rfl ⟨_, rfl, .inl ⟨_, rfl, gq rfl rfl⟩⟩ ?_
    refine ls 46 R9_1_N rfl rfl ⟨_, rfl, .inl ⟨_, rfl, gq rfl rfl⟩⟩ ?_
    refine ls 47 R9_1_N rfl rfl ⟨_, rfl, .inl ⟨_, rfl, gq rfl rfl⟩⟩ ?_
    refine ls 48 R9_1_N rfl rfl ⟨_, rfl, .inl ⟨_, rfl, gq rfl rfl⟩⟩ ?_
    refine ls 49 R9_1_N rfl rfl ⟨_, rfl, .inl ⟨_, rfl, gq rfl rfl⟩⟩ ?_
    refine lj 50 R9_1_N rfl rfl rfl (ov_pickT rfl rfl rfl rfl rfl rfl rfl) ?_
    refine aops_nil ?_
    refine ago_condE  (rfl : C9_5 = .cond (.tmp 50) C9_6 C9_9) rfl rfl (fun h => ?_) (fun h => tf h)
    refine ago_seqE (rfl : C9_6 = .seq C9_7 C9_8) ?_
    refine ago_regE (rfl : C9_7 = .region 2 R9_2 false) (l := [0]) rfl ?_
    refine lj 4 R9_2_N rfl rfl rfl (opv_assign rfl rfl rfl) ?_
    refine aops_nil ?_
    exact ago_retE (rfl : C9_8 = .ret) (r := false) (ares_1 rfl (oneT rfl)) rfl H
  · replace H := cnd_f H hb173
    obtain ⟨b176, i177, p175, hp178, hv179, H⟩ := H
    refine lj 13 R9_1_N rfl rfl ⟨_, rfl, .inl ⟨_, rfl, gq hb173 rfl⟩⟩ (ov_fldA rfl rfl underlying26 rfl sz3 (by decide) rfl hp178 rfl hv179) ?_
    obtain ⟨b180, i181, x183, hp182, hg184, H⟩ := H
    refine lj 14 R9_1_N rfl rfl ⟨_, rfl, .inl ⟨_, rfl, gq hb173 rfl⟩⟩ (ov_ldI rfl underlying3 rfl rfl hp182 hg184) ?_
    obtain ⟨b186, i187, p185, hp188, hv189, H⟩ := H
    refine lj 15 R9_1_N rfl rfl ⟨_, rfl, .inl ⟨_, rfl, gq hb173 rfl⟩⟩ (ov_fldA rfl rfl underlying26 rfl sz3 (by decide) rfl hp188 rfl hv189) ?_
    obtain ⟨b190, i191, x193, hp192, hg194, H⟩ := H
    refine lj 16 R9_1_N rfl rfl ⟨_, rfl, .inl ⟨_, rfl, gq hb173 rfl⟩⟩ (ov_ldI rfl underlying3 rfl rfl hp192 hg194) ?_
    refine lj 17 R9_1_N rfl rfl ⟨_, rfl, .inl ⟨_, rfl, gq hb173 rfl⟩⟩ (opv_neI rfl rfl rfl rfl rfl) ?_
    refine lj 18 R9_1_N rfl rfl rfl (ov_pickF rfl rfl rfl rfl rfl hb173 rfl) ?_
    refine lj 19 R9_1_N rfl rfl rfl (opv_move rfl rfl rfl) ?_
    rcases Bool.eq_false_or_eq_true (!decide (x183 = x193)) with hb195 | hb195
    · replace H := cnd_t H hb195
      refine ls 20 R9_1_N rfl rfl ⟨_, rfl, .inl ⟨_, rfl, gq hb195 rfl⟩⟩ ?_
      refine ls 21 R9_1_N rfl rfl ⟨_, rfl, .inl ⟨_, rfl, gq hb195 rfl⟩⟩ ?_
      refine ls 22 R9_1_N rfl rfl ⟨_, rfl, .inl ⟨_, rfl, gq hb195 rfl⟩⟩ ?_
      refine ls 23 R9_1_N rfl rfl ⟨_, rfl, .inl ⟨_, rfl, gq hb195 rfl⟩⟩ ?_
      refine ls 24 R9_1_N rfl rfl ⟨_, rfl, .inl ⟨_, rfl, gq hb195 rfl⟩⟩ ?_
      refine lj 25 R9_1_N rfl rfl rfl (ov_pickT rfl rfl rfl rfl rfl hb195 rfl) ?_
      refine lj 26 R9_1_N rfl rfl rfl (opv_move rfl rfl rfl) ?_
      refine ls 27 R9_1_N rfl rfl ⟨_, rfl, .inl ⟨_, rfl, gq rfl rfl⟩⟩ ?_
      refine ls 28 R9_1_N rfl rfl ⟨_, rfl, .inl ⟨_, rfl, gq rfl rfl⟩⟩ ?_
      refine ls 29 R9_1_N rfl rfl ⟨_, rfl, .inl ⟨_, rfl, gq rfl rfl⟩⟩ ?_
      refine ls 30 R9_1_N rfl rfl ⟨_, rfl, .inl ⟨_, rfl, gq rfl rfl⟩⟩ ?_
      refine ls 31 R9_1_N rfl rfl ⟨_, rfl, .inl ⟨_, rfl, gq rfl rfl⟩⟩ ?_
      refine lj 32 R9_1_N rfl rfl rfl (ov_pickT rfl rfl rfl rfl rfl rfl rfl) ?_
      refine lj 33 R9_1_N rfl rfl rfl (opv_move rfl rfl rfl) ?_
      refine ls 34 R9_1_N rfl rfl ⟨_, rfl, .inl ⟨_, rfl, gq rfl rfl⟩⟩ ?_
      refine ls 35 R9_1_N rfl rfl ⟨_, rfl, .inl ⟨_, rfl, gq rfl rfl⟩⟩ ?_
      refine ls 36 R9_1_N rfl rfl ⟨_, rfl, .inl ⟨_, rfl, gq rfl rfl⟩⟩ ?_
      refine ls 37 R9_1_N rfl rfl ⟨_, rfl, .inl ⟨_, rfl, gq rfl rfl⟩⟩ ?_
      refine ls 38 R9_1_N rfl rfl ⟨_, rfl, .inl ⟨_, rfl, gq rfl rfl⟩⟩ ?_
      refine ls 39 R9_1_N rfl rfl ⟨_, rfl, .inl ⟨_, rfl, gq rfl rfl⟩⟩ ?_
      refine ls 40 R9_1_N rfl rfl ⟨_, rfl, .inl ⟨_, rfl, gq rfl rfl⟩⟩ ?_
      refine lj 41 R9_1_N rfl rfl rfl (ov_pickT rfl rfl rfl rfl rfl rfl rfl) ?_
      refine lj 42 R9_1_N rfl rfl rfl (opv_move rfl rfl rfl) ?_
      refine ls 43 R9_1_N rfl rfl ⟨_, rfl, .inl ⟨_, rfl, gq rfl rfl⟩⟩ ?_
      refine ls 44 R9_1_N rfl rfl ⟨_, rfl, .inl ⟨_, rfl, gq rfl rfl⟩⟩ ?_
      refine ls 45 R9_1_N rfl rfl ⟨_, rfl, .inl ⟨_, rfl, gq rfl rfl⟩⟩ ?_
      refine ls 46 R9_1_N rfl rfl ⟨_, rfl, .inl ⟨_, rfl, gq rfl rfl⟩⟩ ?_
      refine ls 47 R9_1_N rfl rfl ⟨_, rfl, .inl ⟨_, rfl, gq rfl rfl⟩⟩ ?_
      refine ls 48 R9_1_N rfl rfl ⟨_, rfl, .inl ⟨_, rfl, gq rfl rfl⟩⟩ ?_
      refine ls 49 R9_1_N rfl rfl ⟨_, rfl, .inl ⟨_, rfl, gq rfl rfl⟩⟩ ?_
      refine lj 50 R9_1_N rfl rfl rfl (ov_pickT rfl rfl rfl rfl rfl rfl rfl) ?_
      refine aops_nil ?_
      refine ago_condE  (rfl : C9_5 = .cond (.tmp 50) C9_6 C9_9) rfl rfl (fun h => ?_) (fun h => tf h)
      refine ago_seqE (rfl : C9_6 = .seq C9_7 C9_8) ?_
      refine ago_regE (rfl : C9_7 = .region 2 R9_2 false) (l := [0]) rfl ?_
      refine lj 4 R9_2_N rfl rfl rfl (opv_assign rfl rfl rfl) ?_
      refine aops_nil ?_
      exact ago_retE (rfl : C9_8 = .ret) (r := false) (ares_1 rfl (oneT rfl)) rfl H
    · replace H := cnd_f H hb195
      obtain ⟨b198, i199, p197, hp200, hv201, H⟩ := H
      refine lj 20 R9_1_N rfl rfl ⟨_, rfl, .inl ⟨_, rfl, gq hb195 rfl⟩⟩ (ov_fldA rfl rfl underlying26 rfl sz9 (by decide) rfl hp200 rfl hv201) ?_
      obtain ⟨b202, i203, x205, hp204, hg206, H⟩ := H
      refine lj 21 R9_1_N rfl rfl ⟨_, rfl, .inl ⟨_, rfl, gq hb195 rfl⟩⟩ (ov_ldS rfl underlying9 rfl rfl hp204 hg206) ?_
      obtain ⟨b208, i209, p207, hp210, hv211, H⟩ := H
      refine lj 22 R9_1_N rfl rfl ⟨_, rfl, .inl ⟨_, rfl, gq hb195 rfl⟩⟩ (ov_fldA rfl rfl underlying26 rfl sz9 (by decide) rfl hp210 rfl hv211) ?_
      obtain ⟨b212, i213, x215, hp214, hg216, H⟩ := H
      refine lj 23 R9_1_N rfl rfl ⟨_, rfl, .inl ⟨_, rfl, gq hb195 rfl⟩⟩ (ov_ldS rfl underlying9 rfl rfl hp214 hg216) ?_
      refine lj 24 R9_1_N rfl rfl ⟨_, rfl, .inl ⟨_, rfl, gq hb195 rfl⟩⟩ (opv_neS rfl rfl rfl rfl rfl) ?_
      refine lj 25 R9_1_N rfl rfl rfl (ov_pickF rfl rfl rfl rfl rfl hb195 rfl) ?_
      refine lj 26 R9_1_N rfl rfl rfl (opv_move rfl rfl rfl) ?_
      rcases Bool.eq_false_or_eq_true (!decide (x205 = x215)) with hb217 | hb217
      · replace H := cnd_t H hb217
        refine ls 27 R9_1_N rfl rfl ⟨_, rfl, .inl ⟨_, rfl, gq hb217 rfl⟩⟩ ?_
        refine ls 28 R9_1_N rfl rfl ⟨_, rfl, .inl ⟨_, rfl, gq hb217 rfl⟩⟩ ?_
        refine ls 29 R9_1_N rfl rfl ⟨_, rfl, .inl ⟨_, rfl, gq hb217 rfl⟩⟩ ?_
        refine ls 30 R9_1_N rfl rfl ⟨_, rfl, .inl ⟨_, rfl, gq hb217 rfl⟩⟩ ?_
        refine ls 31 R9_1_N rfl rfl ⟨_, rfl, .inl ⟨_, rfl, gq hb217 rfl⟩⟩ ?_
        refine lj 32 R9_1_N rfl rfl rfl (ov_pickT rfl rfl rfl rfl rfl hb217 rfl) ?_
        refine lj 33 R9_1_N rfl rfl rfl (opv_move rfl rfl rfl) ?_
        refine ls 34 R9_1_N rfl rfl ⟨_, rfl, .inl ⟨_, rfl, gq rfl rfl⟩⟩ ?_
        refine ls 35 R9_1_N rfl rfl ⟨_, rfl, .inl ⟨_, rfl, gq rfl rfl⟩⟩ ?_
        refine ls 36 R9_1_N rfl rfl ⟨_, rfl, .inl ⟨_, rfl, gq rfl rfl⟩⟩ ?_
        refine ls 37 R9_1_N rfl rfl ⟨_, rfl, .inl ⟨_, rfl, gq rfl rfl⟩⟩ ?_
        refine ls 38 R9_1_N rfl rfl ⟨_, rfl, .inl ⟨_, rfl, gq rfl rfl⟩⟩ ?_
        refine ls 39 R9_1_N rfl rfl ⟨_, rfl, .inl ⟨_, rfl, gq rfl rfl⟩⟩ ?_
        refine ls 40 R9_1_N rfl rfl ⟨_, rfl, .inl ⟨_, rfl, gq rfl rfl⟩⟩ ?_
        refine lj 41 R9_1_N rfl rfl rfl (ov_pickT rfl rfl rfl rfl rfl rfl rfl) ?_
        refine lj 42 R9_1_N rfl rfl rfl (opv_move rfl rfl rfl) ?_
        refine ls 43 R9_1_N rfl rfl ⟨_, rfl, .inl ⟨_, rfl, gq rfl rfl⟩⟩ ?_
        refine ls 44 R9_1_N rfl rfl ⟨_, rfl, .inl ⟨_, rfl, gq rfl rfl⟩⟩ ?_
        refine ls 45 R9_1_N rfl rfl ⟨_, rfl, .inl ⟨_, rfl, gq rfl rfl⟩⟩ ?_
        refine ls 46 R9_1_N rfl rfl ⟨_, rfl, .inl ⟨_, rfl, gq rfl rfl⟩⟩ ?_
        refine ls 47 R9_1_N rfl rfl ⟨_, rfl, .inl ⟨_, rfl, gq rfl rfl⟩⟩ ?_
        refine ls 48 R9_1_N rfl rfl ⟨_, rfl, .inl ⟨_, rfl, gq rfl rfl⟩⟩ ?_
        refine ls 49 R9_1_N rfl rfl ⟨_, rfl, .inl ⟨_, rfl, gq rfl rfl⟩⟩ ?_
        refine lj 50 R9_1_N rfl rfl rfl (ov_pickT rfl rfl rfl rfl rfl rfl rfl) ?_
        refine aops_nil ?_
        refine ago_condE  (rfl : C9_5 = .cond (.tmp 50) C9_6 C9_9) rfl rfl (fun h => ?_) (fun h => tf h)
        refine ago_seqE (rfl : C9_6 = .seq C9_7 C9_8) ?_
        refine ago_regE (rfl : C9_7 = .region 2 R9_2 false) (l := [0]) rfl ?_
        refine lj 4 R9_2_N rfl rfl rfl (opv_assign rfl rfl rfl) ?_
        refine aops_nil ?_
        exact ago_retE (rfl : C9_8 = .ret) (r := false) (ares_1 rfl (oneT rfl)) rfl H
      · replace H := cnd_f H hb217
        obtain ⟨b220, i221, p219, hp222, hv223, H⟩ := H
        refine lj 27 R9_1_N rfl rfl ⟨_, rfl, .inl ⟨_, rfl, gq hb217 rfl⟩⟩ (ov_fldA rfl rfl underlying26 rfl sz9 (by decide) rfl hp222 rfl hv223) ?_
        obtain ⟨b224, i225, x227, hp226, hg228, H⟩ := H
        refine lj 28 R9_1_N rfl rfl ⟨_, rfl, .inl ⟨_, rfl, gq hb217 rfl⟩⟩ (ov_ldS rfl underlying9 rfl rfl hp226 hg228) ?_
        obtain ⟨b230, i231, p229, hp232, hv233, H⟩ := H
        refine lj 29 R9_1_N rfl rfl ⟨_, rfl, .inl ⟨_, rfl, gq hb217 rfl⟩⟩ (ov_fldA rfl rfl underlying26 rfl sz9 (by decide) rfl hp232 rfl hv233) ?_
        obtain ⟨b234, i235, x237, hp236, hg238, H⟩ := H
        refine lj 30 R9_1_N rfl rfl ⟨_, rfl, .inl ⟨_, rfl, gq hb217 rfl⟩⟩ (ov_ldS rfl underlying9 rfl rfl hp236 hg238) ?_
        refine lj 31 R9_1_N rfl rfl ⟨_, rfl, .inl ⟨_, rfl, gq hb217 rfl⟩⟩ (opv_neS rfl rfl rfl rfl rfl) ?_
        refine lj 32 R9_1_N rfl rfl rfl (ov_pickF rfl rfl rfl rfl rfl hb217 rfl) ?_
        refine lj 33 R9_1_N rfl rfl rfl (opv_move rfl rfl rfl) ?_
        rcases Bool.eq_false_or_eq_true (!decide (x227 = x237)) with hb239 | hb239
        · replace H := cnd_t H hb239
          refine ls 34 R9_1_N rfl rfl ⟨_, rfl, .inl ⟨_, rfl, gq hb239 rfl⟩⟩ ?_
          refine ls 35 R9_1_N rfl rfl ⟨_, rfl, .inl ⟨_, rfl, gq hb239 rfl⟩⟩ ?_
          refine ls 36 R9_1_N rfl rfl ⟨_, rfl, .inl ⟨_, rfl, gq hb239 rfl⟩⟩ ?_
          refine ls 37 R9_1_N rfl rfl ⟨_, rfl, .inl ⟨_, rfl, gq hb239 rfl⟩⟩ ?_
          refine ls 38 R9_1_N rfl rfl ⟨_, rfl, .inl ⟨_, rfl, gq hb239 rfl⟩⟩ ?_
          refine ls 39 R9_1_N rfl rfl ⟨_, rfl, .inl ⟨_, rfl, gq hb239 rfl⟩⟩ ?_
          refine ls 40 R9_1_N rfl rfl ⟨_, rfl, .inl ⟨_, rfl, gq hb239 rfl⟩⟩ ?_
          refine lj 41 R9_1_N rfl rfl rfl (ov_pickT rfl rfl rfl rfl rfl hb239 rfl) ?_
          refine lj 42 R9_1_N rfl rfl rfl (opv_move rfl rfl rfl) ?_
          refine ls 43 R9_1_N rfl rfl ⟨_, rfl, .inl ⟨_, rfl, gq rfl rfl⟩⟩ ?_
          refine ls 44 R9_1_N rfl rfl ⟨_, rfl, .inl ⟨_, rfl, gq rfl rfl⟩⟩ ?_
          refine ls 45 R9_1_N rfl rfl ⟨_, rfl, .inl ⟨_, rfl, gq rfl rfl⟩⟩ ?_
          refine ls 46 R9_1_N rfl rfl ⟨_, rfl, .inl ⟨_, rfl, gq rfl rfl⟩⟩ ?_
          refine ls 47 R9_1_N rfl rfl ⟨_, rfl, .inl ⟨_, rfl, gq rfl rfl⟩⟩ ?_
          refine ls 48 R9_1_N rfl rfl ⟨_, rfl, .inl ⟨_, rfl, gq rfl rfl⟩⟩ ?_
          refine ls 49 R9_1_N rfl rfl ⟨_, rfl, .inl ⟨_, rfl, gq rfl rfl⟩⟩ ?_
          refine lj 50 R9_1_N rfl rfl rfl (ov_pickT rfl rfl rfl rfl rfl rfl rfl) ?_
          refine aops_nil ?_
          refine ago_condE  (rfl : C9_5 = .cond (.tmp 50) C9_6 C9_9) rfl rfl (fun h => ?_) (fun h => tf h)
          refine ago_seqE (rfl : C9_6 = .seq C9_7 C9_8) ?_
          refine ago_regE (rfl : C9_7 = .region 2 R9_2 false) (l := [0]) rfl ?_
          refine lj 4 R9_2_N rfl rfl rfl (opv_assign rfl rfl rfl) ?_
          refine aops_nil ?_
          exact ago_retE (rfl : C9_8 = .ret) (r := false) (ares_1 rfl (oneT rfl)) rfl H
        · replace H := cnd_f H hb239
          obtain ⟨b242, i243, p241, hp244, hv245, H⟩ := H
          refine lj 34 R9_1_N rfl rfl ⟨_, rfl, .inl ⟨_, rfl, gq hb239 rfl⟩⟩ (ov_fldA rfl rfl underlying26 rfl sz23 (by decide) rfl hp244 rfl hv245) ?_
          obtain ⟨b246, i247, x249, hp248, hg250, H⟩ := H
          refine lj 35 R9_1_N rfl rfl ⟨_, rfl, .inl ⟨_, rfl, gq hb239 rfl⟩⟩ (ov_ldV rfl underlying23 rfl rfl rfl hp248 hg250) ?_
          obtain ⟨q252, l253, c254, n251, hv255, hn256, H⟩ := H
          refine lj 36 R9_1_N rfl rfl ⟨_, rfl, .inl ⟨_, rfl, gq hb239 rfl⟩⟩ (ov_len rfl rfl rfl underlying23 rfl hv255 hn256) ?_
          obtain ⟨b258, i259, p257, hp260, hv261, H⟩ := H
          refine lj 37 R9_1_N rfl rfl ⟨_, rfl, .inl ⟨_, rfl, gq hb239 rfl⟩⟩ (ov_fldA rfl rfl underlying26 rfl sz23 (by decide) rfl hp260 rfl hv261) ?_
          obtain ⟨b262, i263, x265, hp264, hg266, H⟩ := H
          refine lj 38 R9_1_N rfl rfl ⟨_, rfl, .inl ⟨_, rfl, gq hb239 rfl⟩⟩ (ov_ldV rfl underlying23 rfl rfl rfl hp264 hg266) ?_
          obtain ⟨q268, l269, c270, n267, hv271, hn272, H⟩ := H
          refine lj 39 R9_1_N rfl rfl ⟨_, rfl, .inl ⟨_, rfl, gq hb239 rfl⟩⟩ (ov_len rfl rfl rfl underlying23 rfl hv271 hn272) ?_
          refine lj 40 R9_1_N rfl rfl ⟨_, rfl, .inl ⟨_, rfl, gq hb239 rfl⟩⟩ (opv_neI rfl rfl rfl rfl rfl) ?_
          refine lj 41 R9_1_N rfl rfl rfl (ov_pickF rfl rfl rfl rfl rfl hb239 rfl) ?_
          refine lj 42 R9_1_N rfl rfl rfl (opv_move rfl rfl rfl) ?_
          rcases Bool.eq_false_or_eq_true (!decide (n251 = n267)) with hb273 | hb273
          · replace H := cnd_t H hb273
            refine ls 43 R9_1_N rfl rfl ⟨_, rfl, .inl ⟨_, rfl, gq hb273 rfl⟩⟩ ?_
            refine ls 44 R9_1_N rfl rfl ⟨_, rfl, .inl ⟨_, rfl, gq hb273 rfl⟩⟩ ?_
            refine ls 45 R9_1_N rfl rfl ⟨_, rfl, .inl ⟨_, rfl, gq hb273 rfl⟩⟩ ?_
            refine ls 46 R9_1_N rfl rfl ⟨_, rfl, .inl ⟨_, rfl, gq hb273 rfl⟩⟩ ?_
            refine ls 47 R9_1_N rfl rfl ⟨_, rfl, .inl ⟨_, rfl, gq hb273 rfl⟩⟩ ?_
            refine ls 48 R9_1_N rfl rfl ⟨_, rfl, .inl ⟨_, rfl, gq hb273 rfl⟩⟩ ?_
            refine ls 49 R9_1_N rfl rfl ⟨_, rfl, .inl ⟨_, rfl, gq hb273 rfl⟩⟩ ?_
            refine lj 50 R9_1_N rfl rfl rfl (ov_pickT rfl rfl rfl rfl rfl hb273 rfl) ?_
            refine aops_nil ?_
            refine ago_condE  (rfl : C9_5 = .cond (.tmp 50) C9_6 C9_9) rfl rfl (fun h => ?_) (fun h => tf h)
            refine ago_seqE (rfl : C9_6 = .seq C9_7 C9_8) ?_
            refine ago_regE (rfl : C9_7 = .region 2 R9_2 false) (l := [0]) rfl ?_
            refine lj 4 R9_2_N rfl rfl rfl (opv_assign rfl rfl rfl) ?_
            refine aops_nil ?_
            exact ago_retE (rfl : C9_8 = .ret) (r := false) (ares_1 rfl (oneT rfl)) rfl H
          · replace H := cnd_f H hb273
            obtain ⟨b276, i277, p275, hp278, hv279, H⟩ := H
            refine lj 43 R9_1_N rfl rfl ⟨_, rfl, .inl ⟨_, rfl, gq hb273 rfl⟩⟩ (ov_fldA rfl rfl underlying26 rfl sz24 (by decide) rfl hp278 rfl hv279) ?_
            obtain ⟨b280, i281, x283, hp282, hg284, H⟩ := H
            refine lj 44 R9_1_N rfl rfl ⟨_, rfl, .inl ⟨_, rfl, gq hb273 rfl⟩⟩ (ov_ldV rfl underlying24 rfl rfl rfl hp282 hg284) ?_
            obtain ⟨q286, l287, c288, n285, hv289, hn290, H⟩ := H
            refine lj 45 R9_1_N rfl rfl ⟨_, rfl, .inl ⟨_, rfl, gq hb273 rfl⟩⟩ (ov_len rfl rfl rfl underlying24 rfl hv289 hn290) ?_
            obtain ⟨b292, i293, p291, hp294, hv295, H⟩ := H
            refine lj 46 R9_1_N rfl rfl ⟨_, rfl, .inl ⟨_, rfl, gq hb273 rfl⟩⟩ (ov_fldA rfl rfl underlying26 rfl sz24 (by decide) rfl hp294 rfl hv295) ?_
            obtain ⟨b296, i297, x299, hp298, hg300, H⟩ := H
            refine lj 47 R9_1_N rfl rfl ⟨_, rfl, .inl ⟨_, rfl, gq hb273 rfl⟩⟩ (ov_ldV rfl underlying24 rfl rfl rfl hp298 hg300) ?_
            obtain ⟨q302, l303, c304, n301, hv305, hn306, H⟩ := H
            refine lj 48 R9_1_N rfl rfl ⟨_, rfl, .inl ⟨_, rfl, gq hb273 rfl⟩⟩ (ov_len rfl rfl rfl underlying24 rfl hv305 hn306) ?_
            refine lj 49 R9_1_N rfl rfl ⟨_, rfl, .inl ⟨_, rfl, gq hb273 rfl⟩⟩ (opv_neI rfl rfl rfl rfl rfl) ?_
            refine lj 50 R9_1_N rfl rfl rfl (ov_pickF rfl rfl rfl rfl rfl hb273 rfl) ?_
            refine aops_nil ?_
            refine ago_condE  (rfl : C9_5 = .cond (.tmp 50) C9_6 C9_9) rfl rfl (fun hb307 => ?_) (fun hb307 => ?_)
            · replace H := cnd_t H hb307
              refine ago_seqE (rfl : C9_6 = .seq C9_7 C9_8) ?_
              refine ago_regE (rfl : C9_7 = .region 2 R9_2 false) (l := [0]) rfl ?_
              refine lj 4 R9_2_N rfl rfl rfl (opv_assign rfl rfl rfl) ?_
              refine aops_nil ?_
              exact ago_retE (rfl : C9_8 = .ret) (r := false) (ares_1 rfl (oneT rfl)) rfl H
            replace H := cnd_f H hb307
            refine ago_skipE (rfl : C9_9 = .skip) ?_
            refine ago_seqE (rfl : C9_10 = .seq C9_11 C9_31) ?_
            refine ago_seqE (rfl : C9_11 = .seq C9_12 C9_13) ?_
            refine ago_cut (fun ρ => ρ 2 = p145 ∧ ρ 3 = p149 ∧ True) ⟨rfl, rfl, trivial⟩ (fun ρ ⟨h2, h3, _⟩ => ?_)
            refine ago_regE (rfl : C9_12 = .region 3 R9_3 false) (l := [0]) rfl ?_
            refine lj 5 R9_3_N rfl rfl rfl (opv_assign rfl rfl rfl) ?_
            refine aops_nil ?_
            refine ago_blockE (rfl : C9_13 = .block 0 C9_14) ?_
            refine ago_loopE (rfl : C9_14 = .loop C9_15) ?_
            obtain ⟨n, H⟩ := H
            exact S9_1_ok Q E  n _ p145 p149 0 aw150 h2 h3 rfl H
theorem F9_ok {Q : Bool → AW → Prop} {E : List PanicEntry → AW → Prop} (a_0_0 : Int) (a_0_1 : Int) (a_0_2 : ByteArray) (a_0_3 : Value) (a_0_4 : ByteArray) (a_0_5 : Value) (b_1_0 : Int) (b_1_1 : Int) (b_1_2 : ByteArray) (b_1_3 : Value) (b_1_4 : ByteArray) (b_1_5 : Value) (aw : AW) (H : S9_0 Q E a_0_0 a_0_1 a_0_2 a_0_3 a_0_4 a_0_5 b_1_0 b_1_1 b_1_2 b_1_3 b_1_4 b_1_5 aw) : CallP prog 9 [.agg #[.int .i64 a_0_0, .int .i64 a_0_1, .string a_0_2, a_0_3, .string a_0_4, a_0_5], .agg #[.int .i64 b_1_0, .int .i64 b_1_1, .string b_1_2, b_1_3, .string b_1_4, b_1_5]] aw sh9 Q E :=
  callP_of func9 C9_is rfl (Nat.le_of_ble_eq_true rfl) (S9_0_ok Q E _ a_0_0 a_0_1 a_0_2 a_0_3 a_0_4 a_0_5 b_1_0 b_1_1 b_1_2 b_1_3 b_1_4 b_1_5 aw rfl rfl H)
end
end Go.Proofs.Tryz
