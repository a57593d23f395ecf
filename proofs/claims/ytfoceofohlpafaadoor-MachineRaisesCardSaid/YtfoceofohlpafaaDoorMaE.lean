/- Printed by a program of the prover: what the Go functions of this seat do, in steps. -/
import Derived.Test.YtfoceofohlpafaaDoorMaF
set_option linter.unusedSectionVars false
set_option linter.unusedSimpArgs false
set_option linter.unusedVariables false
namespace Go.Proofs.Tryd
open Go Go.Am Go.RowKit
set_option maxHeartbeats 4000000
set_option maxRecDepth 100000
noncomputable section
variable [SymE]
def C8_0 := bodyOf f8
theorem C8_is : f8.body = some C8_0 := by kernel_rfl
def C8_1 := cl C8_0
def R8_0 := regOps C8_1
def C8_2 := cr C8_0
def C8_3 := cl C8_2
def C8_4 := cl C8_3
def R8_1 := regOps C8_4
def C8_5 := cr C8_3
def C8_6 := cl C8_5
def C8_7 := cl C8_6
def R8_2 := regOps C8_7
def C8_8 := cr C8_6
def C8_9 := cr C8_5
def C8_10 := cr C8_2
def C8_11 := cl C8_10
def R8_3 := regOps C8_11
def C8_12 := cr C8_10
def C8_13 := cl C8_12
def R8_4 := regOps C8_13
def C8_14 := cr C8_12
def C8_15 := cl C8_14
def C8_16 := cl C8_15
def R8_5 := regOps C8_16
def C8_17 := cr C8_15
def C8_18 := cl C8_17
def C8_19 := cl C8_18
def C8_20 := cl C8_19
def C8_21 := cl C8_20
def R8_6 := regOps C8_21
def C8_22 := cr C8_20
def C8_23 := cl C8_22
def C8_24 := cr C8_22
def C8_25 := cr C8_19
def C8_26 := cl C8_25
def C8_27 := cl C8_26
def R8_8 := regOps C8_27
def C8_28 := cr C8_25
def R8_7 := regOps C8_28
def C8_29 := cr C8_14
def C8_30 := cl C8_29
def R8_9 := regOps C8_30
def C8_31 := cr C8_29
def C8_32 := cl C8_31
def C8_33 := cl C8_32
def R8_10 := regOps C8_33
def C8_34 := cr C8_32
def C8_35 := cl C8_34
def R8_11 := regOps C8_35
def C8_36 := cr C8_34
def C8_37 := cr C8_31
def C8_38 := cl C8_37
def R8_12 := regOps C8_38
def C8_39 := cr C8_37
def C8_40 := cl C8_39
def R8_13 := regOps C8_40
def C8_41 := cr C8_39
def C8_42 := cl C8_41
def R8_14 := regOps C8_42
def C8_43 := cr C8_41
def C8_44 := cl C8_43
def R8_15 := regOps C8_44
def C8_45 := cr C8_43
theorem R8_0_N : dstsOk 102 R8_0 = true := by decide +kernel
theorem R8_1_N : dstsOk 102 R8_1 = true := by decide +kernel
theorem R8_2_N : dstsOk 102 R8_2 = true := by decide +kernel
theorem R8_3_N : dstsOk 102 R8_3 = true := by decide +kernel
theorem R8_4_N : dstsOk 102 R8_4 = true := by decide +kernel
theorem R8_5_N : dstsOk 102 R8_5 = true := by decide +kernel
theorem R8_6_N : dstsOk 102 R8_6 = true := by decide +kernel
theorem R8_8_N : dstsOk 102 R8_8 = true := by decide +kernel
theorem R8_7_N : dstsOk 102 R8_7 = true := by decide +kernel
theorem R8_9_N : dstsOk 102 R8_9 = true := by decide +kernel
theorem R8_10_N : dstsOk 102 R8_10 = true := by decide +kernel
theorem R8_11_N : dstsOk 102 R8_11 = true := by decide +kernel
theorem R8_12_N : dstsOk 102 R8_12 = true := by decide +kernel
theorem R8_13_N : dstsOk 102 R8_13 = true := by decide +kernel
theorem R8_14_N : dstsOk 102 R8_14 = true := by decide +kernel
theorem R8_15_N : dstsOk 102 R8_15 = true := by decide +kernel
theorem R8_15_O : linOk R8_15 [0, 1, 2, 3, 4, 5, 6, 7, 8, 10, 11, 13] [(9, [10, 11, 13], []), (12, [13], [14, 15, 16, 17, 18, 19, 20, 21, 22, 23, 24, 25, 26, 27, 28, 29, 30, 31, 32])] = true := by decide +kernel
def S8_2 (Q : Bool → AW → Prop) (E : List PanicEntry → AW → Prop)  (s_0 : ByteArray) (l_8 : Value) (aw : AW) : Prop :=
  alcS aw [.int .u8 8, .int .i64 0, .int .i64 0, .string (⟨#[]⟩ : ByteArray)] 34 4 1 fun p1 aw2 =>
  app aw2 34 4 40 l_8 p1 fun v5 aw6 =>
  CallP prog 13 [v5, .int .i64 3] aw6 sh13 (fun r8 aw9 =>
  alc aw9 [.int .i64 0, .int .u64 0, .string (⟨#[]⟩ : ByteArray), .string (⟨#[]⟩ : ByteArray), (.slice none 0 0), .int .i64 0] 29 0 fun p10 aw11 =>
  st aw11 p10 [.int .i64 r8.1, .int .u64 r8.2.1, .string r8.2.2.1, .string r8.2.2.2.1, r8.2.2.2.2.1, .int .i64 r8.2.2.2.2.2.1] fun aw14 =>
  alcS aw14 [.int .u8 26, .int .i64 0, .int .i64 0, .string s_0] 34 4 1 fun p21 aw22 =>
  CallP prog 13 [p21, .int .i64 3] aw22 sh13 (fun r25 aw26 =>
  alc aw26 [.int .i64 0, .int .u64 0, .string (⟨#[]⟩ : ByteArray), .string (⟨#[]⟩ : ByteArray), (.slice none 0 0), .int .i64 0] 29 0 fun p27 aw28 =>
  st aw28 p27 [.int .i64 r25.1, .int .u64 r25.2.1, .string r25.2.2.1, .string r25.2.2.2.1, r25.2.2.2.2.1, .int .i64 r25.2.2.2.2.2.1] fun aw31 =>
  nilB (.pointer 77) r8.2.2.2.2.2.2 (.pointer none) fun q38 =>
  cnd (!q38) (fldA p10 0 fun p42 =>
  ldI .i64 aw31 p42 fun x50 =>
  cnd (decide (x50 = 0)) (fldA p10 1 fun p53 =>
  ldI .u64 aw31 p53 fun x61 =>
  CallP prog 18 [r8.2.2.2.2.2.2] aw31 sh18 (fun r63 aw64 =>
  again1 aw64 p53 (.int .u64 x61) ∧ CallP prog 19 [r63, .int .u64 x61] aw64 sh19 (fun r65 aw66 =>
  cnd (decide (r65 = s_0)) (fldA p27 0 fun p68 =>
  ldI .i64 aw66 p68 fun x76 =>
  cnd (decide (x76 = 9)) (fldA p27 2 fun p79 =>
  ldS aw66 p79 fun x87 =>
  cnd (decide (x87 = s_0)) (fldA p27 1 fun p90 =>
  ldI .u64 aw66 p90 fun x98 =>
  Q (decide (x98 = 0)) aw66) (Q false aw66)) (Q false aw66)) (Q false aw66)) E) E) (Q false aw31)) (Q false aw31)) E) E
def S8_1s (Q : Bool → AW → Prop) (E : List PanicEntry → AW → Prop)  (nx1 : ByteArray → Int → Int → Value → Int → AW → Prop) (s_0 : ByteArray) (n_2 : Int) (k_7 : Int) (l_8 : Value) (i_9 : Int) (aw : AW) : Prop :=
  cnd (decide (i_9 < k_7)) (alcS aw [.int .u8 0, .int .i64 i_9, .int .i64 0, .string (⟨#[]⟩ : ByteArray)] 34 4 1 fun p101 aw102 =>
  app aw102 34 4 40 l_8 p101 fun v105 aw106 =>
  nx1 s_0 n_2 k_7 v105 (IntKind.i64.wrap (i_9 + 1)) aw106) (alcS aw [.int .u8 24, .int .i64 (IntKind.i64.wrap (k_7 + 4)), .int .i64 0, .string (⟨#[]⟩ : ByteArray), .int .u8 0, .int .i64 n_2, .int .i64 0, .string (⟨#[]⟩ : ByteArray), .int .u8 0, .int .i64 n_2, .int .i64 0, .string (⟨#[]⟩ : ByteArray), .int .u8 26, .int .i64 0, .int .i64 0, .string s_0] 34 4 4 fun p108 aw109 =>
  app aw109 34 4 40 l_8 p108 fun v112 aw113 =>
  cnd (decide (0 < k_7)) (alcS aw113 [.int .u8 18, .int .i64 k_7, .int .i64 0, .string (⟨#[]⟩ : ByteArray)] 34 4 1 fun p116 aw117 =>
  app aw117 34 4 40 v112 p116 fun v120 aw121 =>
  S8_2 Q E  s_0 v120 aw121) (S8_2 Q E  s_0 v112 aw113))
def S8_1 (Q : Bool → AW → Prop) (E : List PanicEntry → AW → Prop)  : Nat → ByteArray → Int → Int → Value → Int → AW → Prop
  | 0 => fun _ _ _ _ _ _ => False
  | n + 1 => S8_1s Q E  (S8_1 Q E  n)
def S8_0 (Q : Bool → AW → Prop) (E : List PanicEntry → AW → Prop)  (s_0 : ByteArray) (deep_1 : Int) (n_2 : Int) (aw : AW) : Prop :=
  CallP prog 11 [] aw sh11 (fun r123 aw124 =>
  cnd (!r123) (CallP prog 11 [] aw124 sh11 (fun r127 aw128 =>
  Q r127 aw128) E) (cnd (decide (2000 < (s_0.size : Int))) (CallP prog 11 [] aw124 sh11 (fun r130 aw131 =>
  Q r130 aw131) E) (∃ n, S8_1 Q E  n s_0 n_2 (Int.tmod (IntKind.i64.wrap deep_1) 6) (.slice none 0 0) 0 aw124))) E
theorem S8_2_ok (Q : Bool → AW → Prop) (E : List PanicEntry → AW → Prop)  (ρ : Env) (s_0 : ByteArray) (l_8 : Value) (aw : AW) (h0 : ρ 0 = .string s_0) (h8 : ρ 8 = l_8) (H : S8_2 Q E  s_0 l_8 aw) :
    AGo prog 102 [.code C8_37] ρ [] aw (RR prog f8 102 sh8 Q E) := by
  unfold S8_2 at H
  refine ago_seqE (rfl : C8_37 = .seq C8_38 C8_39) ?_
  refine ago_regE (rfl : C8_38 = .region 12 R8_12 false) (l := [0, 1, 2, 3, 4]) rfl ?_
  refine lj 54 R8_12_N rfl rfl rfl (opv_move rfl rfl h8) ?_
  refine lj 55 R8_12_N rfl rfl rfl (ov_bld (r := [.int .u8 8, .int .i64 0, .int .i64 0, .string (⟨#[]⟩ : ByteArray)]) rfl rfl bo34 (mp_cons rfl rfl) (fillP rfl rfl rfl rfl (fillN rfl))) ?_
  obtain ⟨p1, aw2, hp3, ha4, H⟩ := H
  refine lj 56 R8_12_N rfl rfl rfl (ov_bsA (r := [.int .u8 8, .int .i64 0, .int .i64 0, .string (⟨#[]⟩ : ByteArray)]) (vs := [.agg #[.int .u8 8, .int .i64 0, .int .i64 0, .string (⟨#[]⟩ : ByteArray)]]) rfl rfl underlying35 sz34 z34 rfl rfl rfl rfl rfl (mp_cons rfl rfl) (.cons (v := .agg #[.int .u8 8, .int .i64 0, .int .i64 0, .string (⟨#[]⟩ : ByteArray)]) (xs := [.int .u8 8, .int .i64 0, .int .i64 0, .string (⟨#[]⟩ : ByteArray)]) (r := []) rfl rfl .nil) hp3 ha4) ?_
  obtain ⟨v5, aw6, hq7, H⟩ := H
  refine lj 57 R8_12_N rfl rfl rfl (ov_app rfl rfl rfl rfl underlying35 sz34 by34 underlying35 rfl z34 rfl (by decide) (by decide) rfl rfl hq7) ?_
  refine lj 8 R8_12_N rfl rfl rfl (opv_assign rfl rfl rfl) ?_
  refine aops_nil ?_
  refine ago_seqE (rfl : C8_39 = .seq C8_40 C8_41) ?_
  refine ago_regE (rfl : C8_40 = .region 13 R8_13 false) (l := [0, 1, 2, 3, 4, 5, 6, 7]) rfl ?_
  refine lj 59 R8_13_N rfl rfl rfl (opv_move rfl rfl rfl) ?_
  refine lc 60 R8_13_N rfl rfl rfl (opc_of rfl rfl is13 (ma_cons rfl (ma_cons rfl rfl))) H (fun _ _ h => ⟨rfl, h⟩) fun r8 aw9 H => ?_
  refine lj 58 R8_13_N rfl rfl rfl (opv_move rfl rfl rfl) ?_
  refine lj 61 R8_13_N rfl rfl rfl (opv_extract rfl rfl rfl rfl) ?_
  refine lj 62 R8_13_N rfl rfl rfl (opv_extract rfl rfl rfl rfl) ?_
  obtain ⟨p10, aw11, hp12, ha13, H⟩ := H
  refine lj 10 R8_13_N rfl rfl rfl (ov_alloc rfl z29 rfl rfl hp12 ha13) ?_
  obtain ⟨b15, i16, aw14, hp17, hw18, ho19, ha20, H⟩ := H
  refine lk (dt := none) R8_13_N rfl rfl rfl (ov_st rfl rfl rfl rfl rfl rfl sz29 hp17 hw18 ho19 ha20) ?_
  refine lj 11 R8_13_N rfl rfl rfl (opv_assign rfl rfl rfl) ?_
  refine aops_nil ?_
  refine ago_seqE (rfl : C8_41 = .seq C8_42 C8_43) ?_
  refine ago_cut (fun ρ => ρ 0 = .string s_0 ∧ ρ 10 = p10 ∧ ρ 11 = r8.2.2.2.2.2.2 ∧ True) ⟨h0, rfl, rfl, trivial⟩ (fun ρ ⟨h0, h10, h11, _⟩ => ?_)
  refine ago_regE (rfl : C8_42 = .region 14 R8_14 false) (l := [0, 1, 2, 3, 4, 5, 6, 7, 8, 9]) rfl ?_
  refine lj 64 R8_14_N rfl rfl rfl (opv_move rfl rfl h0) ?_
  refine lj 65 R8_14_N rfl rfl rfl (ov_bld (r := [.int .u8 26, .int .i64 0, .int .i64 0, .string s_0]) rfl rfl bo34 (mp_cons rfl (mp_cons rfl rfl)) (fillP rfl rfl rfl rfl (fillP rfl rfl rfl rfl (fillN rfl)))) ?_
  obtain ⟨p21, aw22, hp23, ha24, H⟩ := H
  refine lj 66 R8_14_N rfl rfl rfl (ov_bsA (r := [.int .u8 26, .int .i64 0, .int .i64 0, .string s_0]) (vs := [.agg #[.int .u8 26, .int .i64 0, .int .i64 0, .string s_0]]) rfl rfl underlying35 sz34 z34 rfl rfl rfl rfl rfl (mp_cons rfl rfl) (.cons (v := .agg #[.int .u8 26, .int .i64 0, .int .i64 0, .string s_0]) (xs := [.int .u8 26, .int .i64 0, .int .i64 0, .string s_0]) (r := []) rfl rfl .nil) hp23 ha24) ?_
  refine lc 67 R8_14_N rfl rfl rfl (opc_of rfl rfl is13 (ma_cons rfl (ma_cons rfl rfl))) H (fun _ _ h => ⟨rfl, h⟩) fun r25 aw26 H => ?_
  refine lj 63 R8_14_N rfl rfl rfl (opv_move rfl rfl rfl) ?_
  refine lj 68 R8_14_N rfl rfl rfl (opv_extract rfl rfl rfl rfl) ?_
  refine lj 69 R8_14_N rfl rfl rfl (opv_extract rfl rfl rfl rfl) ?_
  obtain ⟨p27, aw28, hp29, ha30, H⟩ := H
  refine lj 12 R8_14_N rfl rfl rfl (ov_alloc rfl z29 rfl rfl hp29 ha30) ?_
  obtain ⟨b32, i33, aw31, hp34, hw35, ho36, ha37, H⟩ := H
  refine lk (dt := none) R8_14_N rfl rfl rfl (ov_st rfl rfl rfl rfl rfl rfl sz29 hp34 hw35 ho36 ha37) ?_
  refine lj 13 R8_14_N rfl rfl rfl (opv_assign rfl rfl rfl) ?_
  refine aops_nil ?_
  refine ago_seqE (rfl : C8_43 = .seq C8_44 C8_45) ?_
  obtain ⟨q38, hf39, hq40, H⟩ := H
  rcases Bool.eq_false_or_eq_true (!q38) with hb41 | hb41
  · replace H := cnd_t H hb41
    obtain ⟨b43, i44, p42, hp45, hv46, H⟩ := H
    obtain ⟨b47, i48, x50, hp49, hg51, H⟩ := H
    rcases Bool.eq_false_or_eq_true (decide (x50 = 0)) with hb52 | hb52
    · replace H := cnd_t H hb52
      obtain ⟨b54, i55, p53, hp56, hv57, H⟩ := H
      obtain ⟨b58, i59, x61, hp60, hg62, H⟩ := H
      refine ago_drawH (p := [0, 1, 2, 3, 4, 5, 6, 7, 8, 10, 11, 13]) (tl := [(9, [10, 11, 13], []), (12, [13], [14, 15, 16, 17, 18, 19, 20, 21, 22, 23, 24, 25, 26, 27, 28, 29, 30, 31, 32])]) (hv := [(0, r8.2.2.2.2.2.2), (1, Value.bool (!q38)), (2, Value.bool (!q38)), (3, p42), (4, Value.int .i64 x50), (5, Value.bool (decide (x50 = 0))), (6, Value.bool (decide (x50 = 0))), (7, Value.bool (decide (x50 = 0))), (8, r8.2.2.2.2.2.2), (10, p53), (11, Value.int .u64 x61), (13, Value.string s_0)]) (rfl : C8_44 = .region 15 R8_15 true) mixed R8_15_N R8_15_O rfl (pv_cons rfl (pv_cons rfl (pv_cons rfl (pv_cons rfl (pv_cons rfl (pv_cons rfl (pv_cons rfl (pv_cons rfl (pv_cons rfl (pv_cons rfl (pv_cons rfl (pv_cons rfl (pv_nil _)))))))))))))
        (fc 70 r8.2.2.2.2.2.2 (hd_v rfl fun ρ hρ => ⟨rfl, opv_move rfl rfl ((hρ 11 (lmem rfl)).trans h11)⟩) rfl rfl
        (fc 71 (.bool (!q38)) (hd_v rfl fun ρ hρ => ⟨rfl, ov_neNil rfl rfl underlying30 ((hρ 70 (lmem rfl)).trans rfl) hf39 hq40⟩) rfl rfl
        (fc 72 (.bool (!q38)) (hd_v rfl fun ρ hρ => ⟨rfl, opv_move rfl rfl ((hρ 71 (lmem rfl)).trans rfl)⟩) rfl rfl
        (fc 73 p42 (hd_v rfl fun ρ hρ => ⟨⟨_, rfl, .inl ⟨_, ((hρ 72 (lmem rfl)).trans rfl), gq hb41 rfl⟩⟩, ov_fldA rfl rfl underlying29 rfl sz24 (by decide) ((hρ 10 (lmem rfl)).trans h10) hp45 rfl hv46⟩) rfl rfl
        (fc 74 (.int .i64 x50) (hd_v rfl fun ρ hρ => ⟨⟨_, rfl, .inl ⟨_, ((hρ 72 (lmem rfl)).trans rfl), gq hb41 rfl⟩⟩, ov_ldI rfl underlying24 rfl ((hρ 73 (lmem rfl)).trans rfl) hp49 hg51⟩) rfl rfl
        (fc 75 (.bool (decide (x50 = 0))) (hd_v rfl fun ρ hρ => ⟨⟨_, rfl, .inl ⟨_, ((hρ 72 (lmem rfl)).trans rfl), gq hb41 rfl⟩⟩, opv_eqI rfl rfl rfl ((hρ 74 (lmem rfl)).trans rfl) rfl⟩) rfl rfl
        (fc 76 (.bool (decide (x50 = 0))) (hd_v rfl fun ρ hρ => ⟨rfl, ov_pickT rfl rfl rfl rfl ((hρ 72 (lmem rfl)).trans rfl) hb41 ((hρ 75 (lmem rfl)).trans rfl)⟩) rfl rfl
        (fc 77 (.bool (decide (x50 = 0))) (hd_v rfl fun ρ hρ => ⟨rfl, opv_move rfl rfl ((hρ 76 (lmem rfl)).trans rfl)⟩) rfl rfl
        (fc 78 r8.2.2.2.2.2.2 (hd_v rfl fun ρ hρ => ⟨⟨_, rfl, .inl ⟨_, ((hρ 77 (lmem rfl)).trans rfl), gq hb52 rfl⟩⟩, opv_move rfl rfl ((hρ 11 (lmem rfl)).trans h11)⟩) rfl rfl
        (fc 80 p53 (hd_v rfl fun ρ hρ => ⟨⟨_, rfl, .inl ⟨_, ((hρ 77 (lmem rfl)).trans rfl), gq hb52 rfl⟩⟩, ov_fldA rfl rfl underlying29 rfl sz26 (by decide) ((hρ 10 (lmem rfl)).trans h10) hp56 rfl hv57⟩) rfl rfl
        (fc 81 (.int .u64 x61) (hd_v rfl fun ρ hρ => ⟨⟨_, rfl, .inl ⟨_, ((hρ 77 (lmem rfl)).trans rfl), gq hb52 rfl⟩⟩, ov_ldI rfl underlying26 rfl ((hρ 80 (lmem rfl)).trans rfl) hp60 hg62⟩) rfl rfl
        (fc 83 (.string s_0) (hd_v rfl fun ρ hρ => ⟨⟨_, rfl, .inl ⟨_, ((hρ 77 (lmem rfl)).trans rfl), gq hb52 rfl⟩⟩, opv_move rfl rfl ((hρ 0 (lmem rfl)).trans h0)⟩) rfl rfl
        ffn)))))))))))) ?_
      refine lt_call (dt := some 79) rfl rfl (fun ρ hρ => ⟨⟨_, rfl, .inl ⟨_, ((hρ 77 (lmem rfl)).trans rfl), gq hb52 rfl⟩⟩, opc_of rfl rfl is18 (ma_cons ((hρ 78 (lmem rfl)).trans rfl) rfl)⟩) H (fun _ _ h _ => ⟨rfl, h⟩) fun r63 aw64 H => ?_
      obtain ⟨hg62, H⟩ := H
      replace hg62 := hg62 _ _ hp60
      refine lt_next (l := [10, 11, 13]) (hv := []) rfl rfl (pv_nil _)
        (fc 80 p53 (hd_v rfl fun ρ hρ => ⟨⟨_, rfl, .inl ⟨_, ((hρ 77 (lmem rfl)).trans rfl), gq hb52 rfl⟩⟩, ov_fldA rfl rfl underlying29 rfl sz26 (by decide) ((hρ 10 (lmem rfl)).trans h10) hp56 rfl hv57⟩) rfl rfl
        (fc 81 (.int .u64 x61) (hd_v rfl fun ρ hρ => ⟨⟨_, rfl, .inl ⟨_, ((hρ 77 (lmem rfl)).trans rfl), gq hb52 rfl⟩⟩, ov_ldI rfl underlying26 rfl ((hρ 80 (lmem rfl)).trans rfl) hp60 hg62⟩) rfl rfl
        (fc 83 (.string s_0) (hd_v rfl fun ρ hρ => ⟨⟨_, rfl, .inl ⟨_, ((hρ 77 (lmem rfl)).trans rfl), gq hb52 rfl⟩⟩, opv_move rfl rfl ((hρ 0 (lmem rfl)).trans h0)⟩) rfl rfl
        ffn))) ?_
      refine lt_call (dt := some 82) rfl rfl (fun ρ hρ => ⟨⟨_, rfl, .inl ⟨_, ((hρ 77 (lmem rfl)).trans rfl), gq hb52 rfl⟩⟩, opc_of rfl rfl is19 (ma_cons ((hρ 79 (lmem rfl)).trans rfl) (ma_cons ((hρ 81 (lmem rfl)).trans rfl) rfl))⟩) H (fun _ _ h _ => ⟨rfl, h⟩) fun r65 aw66 H => ?_
      rcases Bool.eq_false_or_eq_true (decide (r65 = s_0)) with hb67 | hb67
      · replace H := cnd_t H hb67
        obtain ⟨b69, i70, p68, hp71, hv72, H⟩ := H
        obtain ⟨b73, i74, x76, hp75, hg77, H⟩ := H
        rcases Bool.eq_false_or_eq_true (decide (x76 = 9)) with hb78 | hb78
        · replace H := cnd_t H hb78
          obtain ⟨b80, i81, p79, hp82, hv83, H⟩ := H
          obtain ⟨b84, i85, x87, hp86, hg88, H⟩ := H
          rcases Bool.eq_false_or_eq_true (decide (x87 = s_0)) with hb89 | hb89
          · replace H := cnd_t H hb89
            obtain ⟨b91, i92, p90, hp93, hv94, H⟩ := H
            obtain ⟨b95, i96, x98, hp97, hg99, H⟩ := H
            refine lt_next (l := [13, 14, 15, 16, 17, 18, 19, 20, 21, 22, 23, 24, 25, 26, 27, 28, 29, 30, 31, 32]) (hv := [(14, Value.bool (decide (r65 = s_0))), (15, Value.bool (decide (r65 = s_0))), (16, Value.bool (decide (r65 = s_0))), (17, p68), (18, Value.int .i64 x76), (19, Value.bool (decide (x76 = 9))), (20, Value.bool (decide (x76 = 9))), (21, Value.bool (decide (x76 = 9))), (22, p79), (23, Value.string x87), (24, Value.string s_0), (25, Value.bool (decide (x87 = s_0))), (26, Value.bool (decide (x87 = s_0))), (27, Value.bool (decide (x87 = s_0))), (28, p90), (29, Value.int .u64 x98), (30, Value.bool (decide (x98 = 0))), (31, Value.bool (decide (x98 = 0))), (32, Value.bool (decide (x98 = 0)))]) rfl rfl (pv_cons rfl (pv_cons rfl (pv_cons rfl (pv_cons rfl (pv_cons rfl (pv_cons rfl (pv_cons rfl (pv_cons rfl (pv_cons rfl (pv_cons rfl (pv_cons rfl (pv_cons rfl (pv_cons rfl (pv_cons rfl (pv_cons rfl (pv_cons rfl (pv_cons rfl (pv_cons rfl (pv_cons rfl (pv_nil _))))))))))))))))))))
              (fc 83 (.string s_0) (hd_v rfl fun ρ hρ => ⟨⟨_, rfl, .inl ⟨_, ((hρ 77 (lmem rfl)).trans rfl), gq hb52 rfl⟩⟩, opv_move rfl rfl ((hρ 0 (lmem rfl)).trans h0)⟩) rfl rfl
              (fc 84 (.bool (decide (r65 = s_0))) (hd_v rfl fun ρ hρ => ⟨⟨_, rfl, .inl ⟨_, ((hρ 77 (lmem rfl)).trans rfl), gq hb52 rfl⟩⟩, opv_eqS rfl rfl rfl ((hρ 82 (lmem rfl)).trans rfl) ((hρ 83 (lmem rfl)).trans rfl)⟩) rfl rfl
              (fc 85 (.bool (decide (r65 = s_0))) (hd_v rfl fun ρ hρ => ⟨rfl, ov_pickT rfl rfl rfl rfl ((hρ 77 (lmem rfl)).trans rfl) hb52 ((hρ 84 (lmem rfl)).trans rfl)⟩) rfl rfl
              (fc 86 (.bool (decide (r65 = s_0))) (hd_v rfl fun ρ hρ => ⟨rfl, opv_move rfl rfl ((hρ 85 (lmem rfl)).trans rfl)⟩) rfl rfl
              (fc 87 p68 (hd_v rfl fun ρ hρ => ⟨⟨_, rfl, .inl ⟨_, ((hρ 86 (lmem rfl)).trans rfl), gq hb67 rfl⟩⟩, ov_fldA rfl rfl underlying29 rfl sz24 (by decide) ((hρ 12 (lmem rfl)).trans rfl) hp71 rfl hv72⟩) rfl rfl
              (fc 88 (.int .i64 x76) (hd_v rfl fun ρ hρ => ⟨⟨_, rfl, .inl ⟨_, ((hρ 86 (lmem rfl)).trans rfl), gq hb67 rfl⟩⟩, ov_ldI rfl underlying24 rfl ((hρ 87 (lmem rfl)).trans rfl) hp75 hg77⟩) rfl rfl
              (fc 89 (.bool (decide (x76 = 9))) (hd_v rfl fun ρ hρ => ⟨⟨_, rfl, .inl ⟨_, ((hρ 86 (lmem rfl)).trans rfl), gq hb67 rfl⟩⟩, opv_eqI rfl rfl rfl ((hρ 88 (lmem rfl)).trans rfl) rfl⟩) rfl rfl
              (fc 90 (.bool (decide (x76 = 9))) (hd_v rfl fun ρ hρ => ⟨rfl, ov_pickT rfl rfl rfl rfl ((hρ 86 (lmem rfl)).trans rfl) hb67 ((hρ 89 (lmem rfl)).trans rfl)⟩) rfl rfl
              (fc 91 (.bool (decide (x76 = 9))) (hd_v rfl fun ρ hρ => ⟨rfl, opv_move rfl rfl ((hρ 90 (lmem rfl)).trans rfl)⟩) rfl rfl
              (fc 92 p79 (hd_v rfl fun ρ hρ => ⟨⟨_, rfl, .inl ⟨_, ((hρ 91 (lmem rfl)).trans rfl), gq hb78 rfl⟩⟩, ov_fldA rfl rfl underlying29 rfl sz9 (by decide) ((hρ 12 (lmem rfl)).trans rfl) hp82 rfl hv83⟩) rfl rfl
              (fc 93 (.string x87) (hd_v rfl fun ρ hρ => ⟨⟨_, rfl, .inl ⟨_, ((hρ 91 (lmem rfl)).trans rfl), gq hb78 rfl⟩⟩, ov_ldS rfl underlying9 rfl ((hρ 92 (lmem rfl)).trans rfl) hp86 hg88⟩) rfl rfl
              (fc 94 (.string s_0) (hd_v rfl fun ρ hρ => ⟨⟨_, rfl, .inl ⟨_, ((hρ 91 (lmem rfl)).trans rfl), gq hb78 rfl⟩⟩, opv_move rfl rfl ((hρ 0 (lmem rfl)).trans h0)⟩) rfl rfl
              (fc 95 (.bool (decide (x87 = s_0))) (hd_v rfl fun ρ hρ => ⟨⟨_, rfl, .inl ⟨_, ((hρ 91 (lmem rfl)).trans rfl), gq hb78 rfl⟩⟩, opv_eqS rfl rfl rfl ((hρ 93 (lmem rfl)).trans rfl) ((hρ 94 (lmem rfl)).trans rfl)⟩) rfl rfl
              (fc 96 (.bool (decide (x87 = s_0))) (hd_v rfl fun ρ hρ => ⟨rfl, ov_pickT rfl rfl rfl rfl ((hρ 91 (lmem rfl)).trans rfl) hb78 ((hρ 95 (lmem rfl)).trans rfl)⟩) rfl rfl
              (fc 97 (.bool (decide (x87 = s_0))) (hd_v rfl fun ρ hρ => ⟨rfl, opv_move rfl rfl ((hρ 96 (lmem rfl)).trans rfl)⟩) rfl rfl
              (fc 98 p90 (hd_v rfl fun ρ hρ => ⟨⟨_, rfl, .inl ⟨_, ((hρ 97 (lmem rfl)).trans rfl), gq hb89 rfl⟩⟩, ov_fldA rfl rfl underlying29 rfl sz26 (by decide) ((hρ 12 (lmem rfl)).trans rfl) hp93 rfl hv94⟩) rfl rfl
              (fc 99 (.int .u64 x98) (hd_v rfl fun ρ hρ => ⟨⟨_, rfl, .inl ⟨_, ((hρ 97 (lmem rfl)).trans rfl), gq hb89 rfl⟩⟩, ov_ldI rfl underlying26 rfl ((hρ 98 (lmem rfl)).trans rfl) hp97 hg99⟩) rfl rfl
              (fc 100 (.bool (decide (x98 = 0))) (hd_v rfl fun ρ hρ => ⟨⟨_, rfl, .inl ⟨_, ((hρ 97 (lmem rfl)).trans rfl), gq hb89 rfl⟩⟩, opv_eqI rfl rfl rfl ((hρ 99 (lmem rfl)).trans rfl) rfl⟩) rfl rfl
              (fc 101 (.bool (decide (x98 = 0))) (hd_v rfl fun ρ hρ => ⟨rfl, ov_pickT rfl rfl rfl rfl ((hρ 97 (lmem rfl)).trans rfl) hb89 ((hρ 100 (lmem rfl)).trans rfl)⟩) rfl rfl
              (fc 6 (.bool (decide (x98 = 0))) (hd_v rfl fun ρ hρ => ⟨rfl, opv_assign rfl rfl ((hρ 101 (lmem rfl)).trans rfl)⟩) rfl rfl
              ffn)))))))))))))))))))) ?_
            refine lt_end ?_
            exact ago_retE (rfl : C8_45 = .ret) (r := (decide (x98 = 0))) (ares_1 rfl (oneT rfl)) rfl H
          · replace H := cnd_f H hb89
            refine lt_next (l := [13, 14, 15, 16, 17, 18, 19, 20, 21, 22, 23, 24, 25, 26, 27, 28, 29, 30, 31, 32]) (hv := [(14, Value.bool (decide (r65 = s_0))), (15, Value.bool (decide (r65 = s_0))), (16, Value.bool (decide (r65 = s_0))), (17, p68), (18, Value.int .i64 x76), (19, Value.bool (decide (x76 = 9))), (20, Value.bool (decide (x76 = 9))), (21, Value.bool (decide (x76 = 9))), (22, p79), (23, Value.string x87), (24, Value.string s_0), (25, Value.bool (decide (x87 = s_0))), (26, Value.bool (decide (x87 = s_0))), (27, Value.bool (decide (x87 = s_0))), (28, undef), (29, undef), (30, undef), (31, Value.bool false), (32, Value.bool false)]) rfl rfl (pv_cons rfl (pv_cons rfl (pv_cons rfl (pv_cons rfl (pv_cons rfl (pv_cons rfl (pv_cons rfl (pv_cons rfl (pv_cons rfl (pv_cons rfl (pv_cons rfl (pv_cons rfl (pv_cons rfl (pv_cons rfl (pv_cons rfl (pv_cons rfl (pv_cons rfl (pv_cons rfl (pv_cons rfl (pv_nil _))))))))))))))))))))
              (fc 83 (.string s_0) (hd_v rfl fun ρ hρ => ⟨⟨_, rfl, .inl ⟨_, ((hρ 77 (lmem rfl)).trans rfl), gq hb52 rfl⟩⟩, opv_move rfl rfl ((hρ 0 (lmem rfl)).trans h0)⟩) rfl rfl
              (fc 84 (.bool (decide (r65 = s_0))) (hd_v rfl fun ρ hρ => ⟨⟨_, rfl, .inl ⟨_, ((hρ 77 (lmem rfl)).trans rfl), gq hb52 rfl⟩⟩, opv_eqS rfl rfl rfl ((hρ 82 (lmem rfl)).trans rfl) ((hρ 83 (lmem rfl)).trans rfl)⟩) rfl rfl
              (fc 85 (.bool (decide (r65 = s_0))) (hd_v rfl fun ρ hρ => ⟨rfl, ov_pickT rfl rfl rfl rfl ((hρ 77 (lmem rfl)).trans rfl) hb52 ((hρ 84 (lmem rfl)).trans rfl)⟩) rfl rfl
              (fc 86 (.bool (decide (r65 = s_0))) (hd_v rfl fun ρ hρ => ⟨rfl, opv_move rfl rfl ((hρ 85 (lmem rfl)).trans rfl)⟩) rfl rfl
              (fc 87 p68 (hd_v rfl fun ρ hρ => ⟨⟨_, rfl, .inl ⟨_, ((hρ 86 (lmem rfl)).trans rfl), gq hb67 rfl⟩⟩, ov_fldA rfl rfl underlying29 rfl sz24 (by decide) ((hρ 12 (lmem rfl)).trans rfl) hp71 rfl hv72⟩) rfl rfl
              (fc 88 (.int .i64 x76) (hd_v rfl fun ρ hρ => ⟨⟨_, rfl, .inl ⟨_, ((hρ 86 (lmem rfl)).trans rfl), gq hb67 rfl⟩⟩, ov_ldI rfl underlying24 rfl ((hρ 87 (lmem rfl)).trans rfl) hp75 hg77⟩) rfl rfl
              (fc 89 (.bool (decide (x76 = 9))) (hd_v rfl fun ρ hρ => ⟨⟨_, rfl, .inl ⟨_, ((hρ 86 (lmem rfl)).trans rfl), gq hb67 rfl⟩⟩, opv_eqI rfl rfl rfl ((hρ 88 (lmem rfl)).trans rfl) rfl⟩) rfl rfl
              (fc 90 (.bool (decide (x76 = 9))) (hd_v rfl fun ρ hρ => ⟨rfl, ov_pickT rfl rfl rfl rfl ((hρ 86 (lmem rfl)).trans rfl) hb67 ((hρ 89 (lmem rfl)).trans rfl)⟩) rfl rfl
              (fc 91 (.bool (decide (x76 = 9))) (hd_v rfl fun ρ hρ => ⟨rfl, opv_move rfl rfl ((hρ 90 (lmem rfl)).trans rfl)⟩) rfl rfl
              (fc 92 p79 (hd_v rfl fun ρ hρ => ⟨⟨_, rfl, .inl ⟨_, ((hρ 91 (lmem rfl)).trans rfl), gq hb78 rfl⟩⟩, ov_fldA rfl rfl underlying29 rfl sz9 (by decide) ((hρ 12 (lmem rfl)).trans rfl) hp82 rfl hv83⟩) rfl rfl
              (fc 93 (.string x87) (hd_v rfl fun ρ hρ => ⟨⟨_, rfl, .inl ⟨_, ((hρ 91 (lmem rfl)).trans rfl), gq hb78 rfl⟩⟩, ov_ldS rfl underlying9 rfl ((hρ 92 (lmem rfl)).trans rfl) hp86 hg88⟩) rfl rfl
              (fc 94 (.string s_0) (hd_v rfl fun ρ hρ => ⟨⟨_, rfl, .inl ⟨_, ((hρ 91 (lmem rfl)).trans rfl), gq hb78 rfl⟩⟩, opv_move rfl rfl ((hρ 0 (lmem rfl)).trans h0)⟩) rfl rfl
              (fc 95 (.bool (decide (x87 = s_0))) (hd_v rfl fun ρ hρ => ⟨⟨_, rfl, .inl ⟨_, ((hρ 91 (lmem rfl)).trans rfl), gq hb78 rfl⟩⟩, opv_eqS rfl rfl rfl ((hρ 93 (lmem rfl)).trans rfl) ((hρ 94 (lmem rfl)).trans rfl)⟩) rfl rfl
              (fc 96 (.bool (decide (x87 = s_0))) (hd_v rfl fun ρ hρ => ⟨rfl, ov_pickT rfl rfl rfl rfl ((hρ 91 (lmem rfl)).trans rfl) hb78 ((hρ 95 (lmem rfl)).trans rfl)⟩) rfl rfl
              (fc 97 (.bool (decide (x87 = s_0))) (hd_v rfl fun ρ hρ => ⟨rfl, opv_move rfl rfl ((hρ 96 (lmem rfl)).trans rfl)⟩) rfl rfl
              (fc 98 undef (hd_s rfl (fun ρ hρ => ⟨_, rfl, .inl ⟨_, ((hρ 97 (lmem rfl)).trans rfl), gq hb89 rfl⟩⟩) rfl) rfl rfl
              (fc 99 undef (hd_s rfl (fun ρ hρ => ⟨_, rfl, .inl ⟨_, ((hρ 97 (lmem rfl)).trans rfl), gq hb89 rfl⟩⟩) rfl) rfl rfl
              (fc 100 undef (hd_s rfl (fun ρ hρ => ⟨_, rfl, .inl ⟨_, ((hρ 97 (lmem rfl)).trans rfl), gq hb89 rfl⟩⟩) rfl) rfl rfl
              (fc 101 (.bool false) (hd_v rfl fun ρ hρ => ⟨rfl, ov_pickF rfl rfl rfl rfl ((hρ 97 (lmem rfl)).trans rfl) hb89 rfl⟩) rfl rfl
              (fc 6 (.bool false) (hd_v rfl fun ρ hρ => ⟨rfl, opv_assign rfl rfl ((hρ 101 (lmem rfl)).trans rfl)⟩) rfl rfl
              ffn)))))))))))))))))))) ?_
            refine lt_end ?_
            exact ago_retE (rfl : C8_45 = .ret) (r := false) (ares_1 rfl (oneT rfl)) rfl H
        · replace H := cnd_f H hb78
          refine lt_next (l := [13, 14, 15, 16, 17, 18, 19, 20, 21, 22, 23, 24, 25, 26, 27, 28, 29, 30, 31, 32]) (hv := [(14, Value.bool (decide (r65 = s_0))), (15, Value.bool (decide (r65 = s_0))), (16, Value.bool (decide (r65 = s_0))), (17, p68), (18, Value.int .i64 x76), (19, Value.bool (decide (x76 = 9))), (20, Value.bool (decide (x76 = 9))), (21, Value.bool (decide (x76 = 9))), (22, undef), (23, undef), (24, undef), (25, undef), (26, Value.bool false), (27, Value.bool false), (28, undef), (29, undef), (30, undef), (31, Value.bool false), (32, Value.bool false)]) rfl rfl (pv_cons rfl (pv_cons rfl (pv_cons rfl (pv_cons rfl (pv_cons rfl (pv_cons rfl (pv_cons rfl (pv_cons rfl (pv_cons rfl (pv_cons rfl (pv_cons rfl (pv_cons rfl (pv_cons rfl (pv_cons rfl (pv_cons rfl (pv_cons rfl (pv_cons rfl (pv_cons rfl (pv_cons rfl (pv_nil _))))))))))))))))))))
            (fc 83 (.string s_0) (hd_v rfl fun ρ hρ => ⟨⟨_, rfl, .inl ⟨_, ((hρ 77 (lmem rfl)).trans rfl), gq hb52 rfl⟩⟩, opv_move rfl rfl ((hρ 0 (lmem rfl)).trans h0)⟩) rfl rfl
            (fc 84 (.bool (decide (r65 = s_0))) (hd_v rfl fun ρ hρ => ⟨⟨_, rfl, .inl ⟨_, ((hρ 77 (lmem rfl)).trans rfl), gq hb52 rfl⟩⟩, opv_eqS rfl rfl rfl ((hρ 82 (lmem rfl)).trans rfl) ((hρ 83 (lmem rfl)).trans rfl)⟩) rfl rfl
            (fc 85 (.bool (decide (r65 = s_0))) (hd_v rfl fun ρ hρ => ⟨rfl, ov_pickT rfl rfl rfl rfl ((hρ 77 (lmem rfl)).trans rfl) hb52 ((hρ 84 (lmem rfl)).trans rfl)⟩) rfl rfl
            (fc 86 (.bool (decide (r65 = s_0))) (hd_v rfl fun ρ hρ => ⟨rfl, opv_move rfl rfl ((hρ 85 (lmem rfl)).trans rfl)⟩) rfl rfl
            (fc 87 p68 (hd_v rfl fun ρ hρ => ⟨⟨_, rfl, .inl ⟨_, ((hρ 86 (lmem rfl)).trans rfl), gq hb67 rfl⟩⟩, ov_fldA rfl rfl underlying29 rfl sz24 (by decide) ((hρ 12 (lmem rfl)).trans rfl) hp71 rfl hv72⟩) rfl rfl
            (fc 88 (.int .i64 x76) (hd_v rfl fun ρ hρ => ⟨⟨_, rfl, .inl ⟨_, ((hρ 86 (lmem rfl)).trans rfl), gq hb67 rfl⟩⟩, ov_ldI rfl underlying24 rfl ((hρ 87 (lmem rfl)).trans rfl) hp75 hg77⟩) rfl rfl
            (fc 89 (.bool (decide (x76 = 9))) (hd_v rfl fun ρ hρ => ⟨⟨_, rfl, .inl ⟨_, ((hρ 86 (lmem rfl)).trans rfl), gq hb67 rfl⟩⟩, opv_eqI rfl rfl rfl ((hρ 88 (lmem rfl)).trans rfl) rfl⟩) rfl rfl
            (fc 90 (.bool (decide (x76 = 9))) (hd_v rfl fun ρ hρ => ⟨rfl, ov_pickT rfl rfl rfl rfl ((hρ 86 (lmem rfl)).trans rfl) hb67 ((hρ 89 (lmem rfl)).trans rfl)⟩) rfl rfl
            (fc 91 (.bool (decide (x76 = 9))) (hd_v rfl fun ρ hρ => ⟨rfl, opv_move rfl rfl ((hρ 90 (lmem rfl)).trans rfl)⟩) rfl rfl
            (fc 92 undef (hd_s rfl (fun ρ hρ => ⟨_, rfl, .inl ⟨_, ((hρ 91 (lmem rfl)).trans rfl), gq hb78 rfl⟩⟩) rfl) rfl rfl
            (fc 93 undef (hd_s rfl (fun ρ hρ => ⟨_, rfl, .inl ⟨_, ((hρ 91 (lmem rfl)).trans rfl), gq hb78 rfl⟩⟩) rfl) rfl rfl
            (fc 94 undef (hd_s rfl (fun ρ hρ => ⟨_, rfl, .inl ⟨_, ((hρ 91 (lmem rfl)).trans rfl), gq hb78 rfl⟩⟩) rfl) rfl rfl
            (fc 95 undef (hd_s rfl (fun ρ hρ => ⟨_, rfl, .inl ⟨_, ((hρ 91 (lmem rfl)).trans rfl), gq hb78 rfl⟩⟩) rfl) rfl rfl
            (fc 96 (.bool false) (hd_v rfl fun ρ hρ => ⟨rfl, ov_pickF rfl rfl rfl rfl ((hρ 91 (lmem rfl)).trans rfl) hb78 rfl⟩) rfl rfl
            (fc 97 (.bool false) (hd_v rfl fun ρ hρ => ⟨rfl, opv_move rfl rfl ((hρ 96 (lmem rfl)).trans rfl)⟩) rfl rfl
            (fc 98 undef (hd_s rfl (fun ρ hρ => ⟨_, rfl, .inl ⟨_, ((hρ 97 (lmem rfl)).trans rfl), gq rfl rfl⟩⟩) rfl) rfl rfl
            (fc 99 undef (hd_s rfl (fun ρ hρ => ⟨_, rfl, .inl ⟨_, ((hρ 97 (lmem rfl)).trans rfl), gq rfl rfl⟩⟩) rfl) rfl rfl
            (fc 100 undef (hd_s rfl (fun ρ hρ => ⟨_, rfl, .inl ⟨_, ((hρ 97 (lmem rfl)).trans rfl), gq rfl rfl⟩⟩) rfl) rfl rfl
            (fc 101 (.bool false) (hd_v rfl fun ρ hρ => ⟨rfl, ov_pickF rfl rfl rfl rfl ((hρ 97 (lmem rfl)).trans rfl) rfl rfl⟩) rfl rfl
            (fc 6 (.bool false) (hd_v rfl fun ρ hρ => ⟨rfl, opv_assign rfl rfl ((hρ 101 (lmem rfl)).trans rfl)⟩) rfl rfl
            ffn)))))))))))))))))))) ?_
          refine lt_end ?_
          exact ago_retE (rfl : C8_45 = .ret) (r := false) (ares_1 rfl (oneT rfl)) rfl H
      · replace H := cnd_f H hb67
        refine lt_next (l := [13, 14, 15, 16, 17, 18, 19, 20, 21, 22, 23, 24, 25, 26, 27, 28, 29, 30, 31, 32]) (hv := [(14, Value.bool (decide (r65 = s_0))), (15, Value.bool (decide (r65 = s_0))), (16, Value.bool (decide (r65 = s_0))), (17, undef), (18, undef), (19, undef), (20, Value.bool false), (21, Value.bool false), (22, undef), (23, undef), (24, undef), (25, undef), (26, Value.bool false), (27, Value.bool false), (28, undef), (29, undef), (30, undef), (31, Value.bool false), (32, Value.bool false)]) rfl rfl (pv_cons rfl (pv_cons rfl (pv_cons rfl (pv_cons rfl (pv_cons rfl (pv_cons rfl (pv_cons rfl (pv_cons rfl (pv_cons rfl (pv_cons rfl (pv_cons rfl (pv_cons rfl (pv_cons rfl (pv_cons rfl (pv_cons rfl (pv_cons rfl (pv_cons rfl (pv_cons rfl (pv_cons rfl (pv_nil _))))))))))))))))))))
          (fc 83 (.string s_0) (hd_v rfl fun ρ hρ => ⟨⟨_, rfl, .inl ⟨_, ((hρ 77 (lmem rfl)).trans rfl), gq hb52 rfl⟩⟩, opv_move rfl rfl ((hρ 0 (lmem rfl)).trans h0)⟩) rfl rfl
          (fc 84 (.bool (decide (r65 = s_0))) (hd_v rfl fun ρ hρ => ⟨⟨_, rfl, .inl ⟨_, ((hρ 77 (lmem rfl)).trans rfl), gq hb52 rfl⟩⟩, opv_eqS rfl rfl rfl ((hρ 82 (lmem rfl)).trans rfl) ((hρ 83 (lmem rfl)).trans rfl)⟩) rfl rfl
          (fc 85 (.bool (decide (r65 = s_0))) (hd_v rfl fun ρ hρ => ⟨rfl, ov_pickT rfl rfl rfl rfl ((hρ 77 (lmem rfl)).trans rfl) hb52 ((hρ 84 (lmem rfl)).trans rfl)⟩) rfl rfl
          (fc 86 (.bool (decide (r65 = s_0))) (hd_v rfl fun ρ hρ => ⟨rfl, opv_move rfl rfl ((hρ 85 (lmem rfl)).trans rfl)⟩) rfl rfl
          (fc 87 undef (hd_s rfl (fun ρ hρ => ⟨_, rfl, .inl ⟨_, ((hρ 86 (lmem rfl)).trans rfl), gq hb67 rfl⟩⟩) rfl) rfl rfl
          (fc 88 undef (hd_s rfl (fun ρ hρ => ⟨_, rfl, .inl ⟨_, ((hρ 86 (lmem rfl)).trans rfl), gq hb67 rfl⟩⟩) rfl) rfl rfl
          (fc 89 undef (hd_s rfl (fun ρ hρ => ⟨_, rfl, .inl ⟨_, ((hρ 86 (lmem rfl)).trans rfl), gq hb67 rfl⟩⟩) rfl) rfl rfl
          (fc 90 (.bool false) (hd_v rfl fun ρ hρ => ⟨rfl, ov_pickF rfl rfl rfl rfl ((hρ 86 (lmem rfl)).trans rfl) hb67 rfl⟩) rfl rfl
          (fc 91 (.bool false) (hd_v rfl fun ρ hρ => ⟨rfl, opv_move rfl rfl ((hρ 90 (lmem rfl)).trans rfl)⟩) rfl rfl
          (fc 92 undef (hd_s rfl (fun ρ hρ => ⟨_, rfl, .inl ⟨_, ((hρ 91 (lmem rfl)).trans rfl), gq rfl rfl⟩⟩) rfl) rfl rfl
          (fc 93 undef (hd_s rfl (fun ρ hρ => ⟨_, rfl, .inl ⟨_, ((hρ 91 (lmem rfl)).trans rfl), gq rfl rfl⟩⟩) rfl) rfl rfl
          (fc 94 undef (hd_s rfl (fun ρ hρ => ⟨_, rfl, .inl ⟨_, ((hρ 91 (lmem rfl)).trans rfl), gq rfl rfl⟩⟩) rfl) rfl rfl
          (fc 95 undef (hd_s rfl (fun ρ hρ => ⟨_, rfl, .inl ⟨_, ((hρ 91 (lmem rfl)).trans rfl), gq rfl rfl⟩⟩) rfl) rfl rfl
          (fc 96 (.bool false) (hd_v rfl fun ρ hρ => ⟨rfl, ov_pickF rfl rfl rfl rfl ((hρ 91 (lmem rfl)).trans rfl) rfl rfl⟩) rfl rfl
          (fc 97 (.bool false) (hd_v rfl fun ρ hρ => ⟨rfl, opv_move rfl rfl ((hρ 96 (lmem rfl)).trans rfl)⟩) rfl rfl
          (fc 98 undef (hd_s rfl (fun ρ hρ => ⟨_, rfl, .inl ⟨_, ((hρ 97 (lmem rfl)).trans rfl), gq rfl rfl⟩⟩) rfl) rfl rfl
          (fc 99 undef (hd_s rfl (fun ρ hρ => ⟨_, rfl, .inl ⟨_, ((hρ 97 (lmem rfl)).trans rfl), gq rfl rfl⟩⟩) rfl) rfl rfl
          (fc 100 undef (hd_s rfl (fun ρ hρ => ⟨_, rfl, .inl ⟨_, ((hρ 97 (lmem rfl)).trans rfl), gq rfl rfl⟩⟩) rfl) rfl rfl
          (fc 101 (.bool false) (hd_v rfl fun ρ hρ => ⟨rfl, ov_pickF rfl rfl rfl rfl ((hρ 97 (lmem rfl)).trans rfl) rfl rfl⟩) rfl rfl
          (fc 6 (.bool false) (hd_v rfl fun ρ hρ => ⟨rfl, opv_assign rfl rfl ((hρ 101 (lmem rfl)).trans rfl)⟩) rfl rfl
          ffn)))))))))))))))))))) ?_
        refine lt_end ?_
        exact ago_retE (rfl : C8_45 = .ret) (r := false) (ares_1 rfl (oneT rfl)) rfl H
    · replace H := cnd_f H hb52
      refine ago_drawH (p := [0, 1, 2, 3, 4, 5, 6, 7, 8, 10, 11, 13]) (tl := [(9, [10, 11, 13], []), (12, [13], [14, 15, 16, 17, 18, 19, 20, 21, 22, 23, 24, 25, 26, 27, 28, 29, 30, 31, 32])]) (hv := [(0, r8.2.2.2.2.2.2), (1, Value.bool (!q38)), (2, Value.bool (!q38)), (3, p42), (4, Value.int .i64 x50), (5, Value.bool (decide (x50 = 0))), (6, Value.bool (decide (x50 = 0))), (7, Value.bool (decide (x50 = 0))), (8, undef), (10, undef), (11, undef), (13, undef)]) (rfl : C8_44 = .region 15 R8_15 true) mixed R8_15_N R8_15_O rfl (pv_cons rfl (pv_cons rfl (pv_cons rfl (pv_cons rfl (pv_cons rfl (pv_cons rfl (pv_cons rfl (pv_cons rfl (pv_cons rfl (pv_cons rfl (pv_cons rfl (pv_cons rfl (pv_nil _)))))))))))))
        (fc 70 r8.2.2.2.2.2.2 (hd_v rfl fun ρ hρ => ⟨rfl, opv_move rfl rfl ((hρ 11 (lmem rfl)).trans h11)⟩) rfl rfl
        (fc 71 (.bool (!q38)) (hd_v rfl fun ρ hρ => ⟨rfl, ov_neNil rfl rfl underlying30 ((hρ 70 (lmem rfl)).trans rfl) hf39 hq40⟩) rfl rfl
        (fc 72 (.bool (!q38)) (hd_v rfl fun ρ hρ => ⟨rfl, opv_move rfl rfl ((hρ 71 (lmem rfl)).trans rfl)⟩) rfl rfl
        (fc 73 p42 (hd_v rfl fun ρ hρ => ⟨⟨_, rfl, .inl ⟨_, ((hρ 72 (lmem rfl)).trans rfl), gq hb41 rfl⟩⟩, ov_fldA rfl rfl underlying29 rfl sz24 (by decide) ((hρ 10 (lmem rfl)).trans h10) hp45 rfl hv46⟩) rfl rfl
        (fc 74 (.int .i64 x50) (hd_v rfl fun ρ hρ => ⟨⟨_, rfl, .inl ⟨_, ((hρ 72 (lmem rfl)).trans rfl), gq hb41 rfl⟩⟩, ov_ldI rfl underlying24 rfl ((hρ 73 (lmem rfl)).trans rfl) hp49 hg51⟩) rfl rfl
        (fc 75 (.bool (decide (x50 = 0))) (hd_v rfl fun ρ hρ => ⟨⟨_, rfl, .inl ⟨_, ((hρ 72 (lmem rfl)).trans rfl), gq hb41 rfl⟩⟩, opv_eqI rfl rfl rfl ((hρ 74 (lmem rfl)).trans rfl) rfl⟩) rfl rfl
        (fc 76 (.bool (decide (x50 = 0))) (hd_v rfl fun ρ hρ => ⟨rfl, ov_pickT rfl rfl rfl rfl ((hρ 72 (lmem rfl)).trans rfl) hb41 ((hρ 75 (lmem rfl)).trans rfl)⟩) rfl rfl
        (fc 77 (.bool (decide (x50 = 0))) (hd_v rfl fun ρ hρ => ⟨rfl, opv_move rfl rfl ((hρ 76 (lmem rfl)).trans rfl)⟩) rfl rfl
        (fc 78 undef (hd_s rfl (fun ρ hρ => ⟨_, rfl, .inl ⟨_, ((hρ 77 (lmem rfl)).trans rfl), gq hb52 rfl⟩⟩) rfl) rfl rfl
        (fc 80 undef (hd_s rfl (fun ρ hρ => ⟨_, rfl, .inl ⟨_, ((hρ 77 (lmem rfl)).trans rfl), gq hb52 rfl⟩⟩) rfl) rfl rfl
        (fc 81 undef (hd_s rfl (fun ρ hρ => ⟨_, rfl, .inl ⟨_, ((hρ 77 (lmem rfl)).trans rfl), gq hb52 rfl⟩⟩) rfl) rfl rfl
        (fc 83 undef (hd_s rfl (fun ρ hρ => ⟨_, rfl, .inl ⟨_, ((hρ 77 (lmem rfl)).trans rfl), gq hb52 rfl⟩⟩) rfl) rfl rfl
        ffn)))))))))))) ?_
      refine lt_skip (dt := some 79) rfl rfl (fun ρ hρ => ⟨_, rfl, .inl ⟨_, ((hρ 77 (lmem rfl)).trans rfl), gq hb52 rfl⟩⟩) ?_
      refine lt_next (l := [10, 11, 13]) (hv := []) rfl rfl (pv_nil _)
        (fc 80 undef (hd_s rfl (fun ρ hρ => ⟨_, rfl, .inl ⟨_, ((hρ 77 (lmem rfl)).trans rfl), gq hb52 rfl⟩⟩) rfl) rfl rfl
        (fc 81 undef (hd_s rfl (fun ρ hρ => ⟨_, rfl, .inl ⟨_, ((hρ 77 (lmem rfl)).trans rfl), gq hb52 rfl⟩⟩) rfl) rfl rfl
        (fc 83 undef (hd_s rfl (fun ρ hρ => ⟨_, rfl, .inl ⟨_, ((hρ 77 (lmem rfl)).trans rfl), gq hb52 rfl⟩⟩) rfl) rfl rfl
        ffn))) ?_
      refine lt_skip (dt := some 82) rfl rfl (fun ρ hρ => ⟨_, rfl, .inl ⟨_, ((hρ 77 (lmem rfl)).trans rfl), gq hb52 rfl⟩⟩) ?_
      refine lt_next (l := [13, 14, 15, 16, 17, 18, 19, 20, 21, 22, 23, 24, 25, 26, 27, 28, 29, 30, 31, 32]) (hv := [(14, undef), (15, Value.bool false), (16, Value.bool false), (17, undef), (18, undef), (19, undef), (20, Value.bool false), (21, Value.bool false), (22, undef), (23, undef), (24, undef), (25, undef), (26, Value.bool false), (27, Value.bool false), (28, undef), (29, undef), (30, undef), (31, Value.bool false), (32, Value.bool false)]) rfl rfl (pv_cons rfl (pv_cons rfl (pv_cons rfl (pv_cons rfl (pv_cons rfl (pv_cons rfl (pv_cons rfl (pv_cons rfl (pv_cons rfl (pv_cons rfl (pv_cons rfl (pv_cons rfl (pv_cons rfl (pv_cons rfl (pv_cons rfl (pv_cons rfl (pv_cons rfl (pv_cons rfl (pv_cons rfl (pv_nil _))))))))))))))))))))
        (fc 83 undef (hd_s rfl (fun ρ hρ => ⟨_, rfl, .inl ⟨_, ((hρ 77 (lmem rfl)).trans rfl), gq hb52 rfl⟩⟩) rfl) rfl rfl
        (fc 84 undef (hd_s rfl (fun ρ hρ => ⟨_, rfl, .inl ⟨_, ((hρ 77 (lmem rfl)).trans rfl), gq hb52 rfl⟩⟩) rfl) rfl rfl
        (fc 85 (.bool false) (hd_v rfl fun ρ hρ => ⟨rfl, ov_pickF rfl rfl rfl rfl ((hρ 77 (lmem rfl)).trans rfl) hb52 rfl⟩) rfl rfl
        (fc 86 (.bool false) (hd_v rfl fun ρ hρ => ⟨rfl, opv_move rfl rfl ((hρ 85 (lmem rfl)).trans rfl)⟩) rfl rfl
        (fc 87 undef (hd_s rfl (fun ρ hρ => ⟨_, rfl, .inl ⟨_, ((hρ 86 (lmem rfl)).trans rfl), gq rfl rfl⟩⟩) rfl) rfl rfl
        (fc 88 undef (hd_s rfl (fun ρ hρ => ⟨_, rfl, .inl ⟨_, ((hρ 86 (lmem rfl)).trans rfl), gq rfl rfl⟩⟩) rfl) rfl rfl
        (fc 89 undef (hd_s rfl (fun ρ hρ => ⟨_, rfl, .inl ⟨_, ((hρ 86 (lmem rfl)).trans rfl), gq rfl rfl⟩⟩) rfl) rfl rfl
        (fc 90 (.bool false) (hd_v rfl fun ρ hρ => ⟨rfl, ov_pickF rfl rfl rfl rfl ((hρ 86 (lmem rfl)).trans rfl) rfl rfl⟩) rfl rfl
        (fc 91 (.bool false) (hd_v rfl fun ρ hρ => ⟨rfl, opv_move rfl rfl ((hρ 90 (lmem rfl)).trans rfl)⟩) rfl rfl
        (fc 92 undef (hd_s rfl (fun ρ hρ => ⟨_, rfl, .inl ⟨_, ((hρ 91 (lmem rfl)).trans rfl), gq rfl rfl⟩⟩) rfl) rfl rfl
        (fc 93 undef (hd_s rfl (fun ρ hρ => ⟨_, rfl, .inl ⟨_, ((hρ 91 (lmem rfl)).trans rfl), gq rfl rfl⟩⟩) rfl) rfl rfl
        (fc 94 undef (hd_s rfl (fun ρ hρ => ⟨_, rfl, .inl ⟨_, ((hρ 91 (lmem rfl)).trans rfl), gq rfl rfl⟩⟩) rfl) rfl rfl
        (fc 95 undef (hd_s rfl (fun ρ hρ => ⟨_, rfl, .inl ⟨_, ((hρ 91 (lmem rfl)).trans rfl), gq rfl rfl⟩⟩) rfl) rfl rfl
        (fc 96 (.bool false) (hd_v rfl fun ρ hρ => ⟨rfl, ov_pickF rfl rfl rfl rfl ((hρ 91 (lmem rfl)).trans rfl) rfl rfl⟩) rfl rfl
        (fc 97 (.bool false) (hd_v rfl fun ρ hρ => ⟨rfl, opv_move rfl rfl ((hρ 96 (lmem rfl)).trans rfl)⟩) rfl rfl
        (fc 98 undef (hd_s rfl (fun ρ hρ => ⟨_, rfl, .inl ⟨_, ((hρ 97 (lmem rfl)).trans rfl), gq rfl rfl⟩⟩) rfl) rfl rfl
        (fc 99 undef (hd_s rfl (fun ρ hρ => ⟨_, rfl, .inl ⟨_, ((hρ 97 (lmem rfl)).trans rfl), gq rfl rfl⟩⟩) rfl) rfl rfl
        (fc 100 undef (hd_s rfl (fun ρ hρ => ⟨_, rfl, .inl ⟨_, ((hρ 97 (lmem rfl)).trans rfl), gq rfl rfl⟩⟩) rfl) rfl rfl
        (fc 101 (.bool false) (hd_v rfl fun ρ hρ => ⟨rfl, ov_pickF rfl rfl rfl rfl ((hρ 97 (lmem rfl)).trans rfl) rfl rfl⟩) rfl rfl
        (fc 6 (.bool false) (hd_v rfl fun ρ hρ => ⟨rfl, opv_assign rfl rfl ((hρ 101 (lmem rfl)).trans rfl)⟩) rfl rfl
        ffn)))))))))))))))))))) ?_
      refine lt_end ?_
      exact ago_retE (rfl : C8_45 = .ret) (r := false) (ares_1 rfl (oneT rfl)) rfl H
  · replace H := cnd_f H hb41
    refine ago_drawH (p := [0, 1, 2, 3, 4, 5, 6, 7, 8, 10, 11, 13]) (tl := [(9, [10, 11, 13], []), (12, [13], [14, 15, 16, 17, 18, 19, 20, 21, 22, 23, 24, 25, 26, 27, 28, 29, 30, 31, 32])]) (hv := [(0, r8.2.2.2.2.2.2), (1, Value.bool (!q38)), (2, Value.bool (!q38)), (3, undef), (4, undef), (5, undef), (6, Value.bool false), (7, Value.bool false), (8, undef), (10, undef), (11, undef), (13, undef)]) (rfl : C8_44 = .region 15 R8_15 true) mixed R8_15_N R8_15_O rfl (pv_cons rfl (pv_cons rfl (pv_cons rfl (pv_cons rfl (pv_cons rfl (pv_cons rfl (pv_cons rfl (pv_cons rfl (pv_cons rfl (pv_cons rfl (pv_cons rfl (pv_cons rfl (pv_nil _)))))))))))))
      (fc 70 r8.2.2.2.2.2.2 (hd_v rfl fun ρ hρ => ⟨rfl, opv_move rfl rfl ((hρ 11 (lmem rfl)).trans h11)⟩) rfl rfl
      (fc 71 (.bool (!q38)) (hd_v rfl fun ρ hρ => ⟨rfl, ov_neNil rfl rfl underlying30 ((hρ 70 (lmem rfl)).trans rfl) hf39 hq40⟩) rfl rfl
      (fc 72 (.bool (!q38)) (hd_v rfl fun ρ hρ => ⟨rfl, opv_move rfl rfl ((hρ 71 (lmem rfl)).trans rfl)⟩) rfl rfl
      (fc 73 undef (hd_s rfl (fun ρ hρ => ⟨_, rfl, .inl ⟨_, ((hρ 72 (lmem rfl)).trans rfl), gq hb41 rfl⟩⟩) rfl) rfl rfl
      (fc 74 undef (hd_s rfl (fun ρ hρ => ⟨_, rfl, .inl ⟨_, ((hρ 72 (lmem rfl)).trans rfl), gq hb41 rfl⟩⟩) rfl) rfl rfl
      (fc 75 undef (hd_s rfl (fun ρ hρ => ⟨_, rfl, .inl ⟨_, ((hρ 72 (lmem rfl)).trans rfl), gq hb41 rfl⟩⟩) rfl) rfl rfl
      (fc 76 (.bool false) (hd_v rfl fun ρ hρ => ⟨rfl, ov_pickF rfl rfl rfl rfl ((hρ 72 (lmem rfl)).trans rfl) hb41 rfl⟩) rfl rfl
      (fc 77 (.bool false) (hd_v rfl fun ρ hρ => ⟨rfl, opv_move rfl rfl ((hρ 76 (lmem rfl)).trans rfl)⟩) rfl rfl
      (fc 78 undef (hd_s rfl (fun ρ hρ => ⟨_, rfl, .inl ⟨_, ((hρ 77 (lmem rfl)).trans rfl), gq rfl rfl⟩⟩) rfl) rfl rfl
      (fc 80 undef (hd_s rfl (fun ρ hρ => ⟨_, rfl, .inl ⟨_, ((hρ 77 (lmem rfl)).trans rfl), gq rfl rfl⟩⟩) rfl) rfl rfl
      (fc 81 undef (hd_s rfl (fun ρ hρ => ⟨_, rfl, .inl ⟨_, ((hρ 77 (lmem rfl)).trans rfl), gq rfl rfl⟩⟩) rfl) rfl rfl
      (fc 83 undef (hd_s rfl (fun ρ hρ => ⟨_, rfl, .inl ⟨_, ((hρ 77 (lmem rfl)).trans rfl), gq rfl rfl⟩⟩) rfl) rfl rfl
      ffn)))))))))))) ?_
    refine lt_skip (dt := some 79) rfl rfl (fun ρ hρ => ⟨_, rfl, .inl ⟨_, ((hρ 77 (lmem rfl)).trans rfl), gq rfl rfl⟩⟩) ?_
    refine lt_next (l := [10, 11, 13]) (hv := []) rfl rfl (pv_nil _)
      (fc 80 undef (hd_s rfl (fun ρ hρ => ⟨_, rfl, .inl ⟨_, ((hρ 77 (lmem rfl)).trans rfl), gq rfl rfl⟩⟩) rfl) rfl rfl
      (fc 81 undef (hd_s rfl (fun ρ hρ => ⟨_, rfl, .inl ⟨_, ((hρ 77 (lmem rfl)).trans rfl), gq rfl rfl⟩⟩) rfl) rfl rfl
      (fc 83 undef (hd_s rfl (fun ρ hρ => ⟨_, rfl, .inl ⟨_, ((hρ 77 (lmem rfl)).trans rfl), gq rfl rfl⟩⟩) rfl) rfl rfl
      ffn))) ?_
    refine lt_skip (dt := some 82) rfl rfl (fun ρ hρ => ⟨_, rfl, .inl ⟨_, ((hρ 77 (lmem rfl)).trans rfl), gq rfl rfl⟩⟩) ?_
    refine lt_next (l := [13, 14, 15, 16, 17, 18, 19, 20, 21, 22, 23, 24, 25, 26, 27, 28, 29, 30, 31, 32]) (hv := [(14, undef), (15, Value.bool false), (16, Value.bool false), (17, undef), (18, undef), (19, undef), (20, Value.bool false), (21, Value.bool false), (22, undef), (23, undef), (24, undef), (25, undef), (26, Value.bool false), (27, Value.bool false), (28, undef), (29, undef), (30, undef), (31, Value.bool false), (32, Value.bool false)]) rfl rfl (pv_cons rfl (pv_cons rfl (pv_cons rfl (pv_cons rfl (pv_cons rfl (pv_cons rfl (pv_cons rfl (pv_cons rfl (pv_cons rfl (pv_cons rfl (pv_cons rfl (pv_cons rfl (pv_cons rfl (pv_cons rfl (pv_cons rfl (pv_cons rfl (pv_cons rfl (pv_cons rfl (pv_cons rfl (pv_nil _))))))))))))))))))))
      (fc 83 undef (hd_s rfl (fun ρ hρ => ⟨_, rfl, .inl ⟨_, ((hρ 77 (lmem rfl)).trans rfl), gq rfl rfl⟩⟩) rfl) rfl rfl
      (fc 84 undef (hd_s rfl (fun ρ hρ => ⟨_, rfl, .inl ⟨_, ((hρ 77 (lmem rfl)).trans rfl), gq rfl rfl⟩⟩) rfl) rfl rfl
      (fc 85 (.bool false) (hd_v rfl fun ρ hρ => ⟨rfl, ov_pickF rfl rfl rfl rfl ((hρ 77 (lmem rfl)).trans rfl) rfl rfl⟩) rfl rfl
      (fc 86 (.bool false) (hd_v rfl fun ρ hρ => ⟨rfl, opv_move rfl rfl ((hρ 85 (lmem rfl)).trans rfl)⟩) rfl rfl
      (fc 87 undef (hd_s rfl (fun ρ hρ => ⟨_, rfl, .inl ⟨_, ((hρ 86 (lmem rfl)).trans rfl), gq rfl rfl⟩⟩) rfl) rfl rfl
      (fc 88 undef (hd_s rfl (fun ρ hρ => ⟨_, rfl, .inl ⟨_, ((hρ 86 (lmem rfl)).trans rfl), gq rfl rfl⟩⟩) rfl) rfl rfl
      (fc 89 undef (hd_s rfl (fun ρ hρ => ⟨_, rfl, .inl ⟨_, ((hρ 86 (lmem rfl)).trans rfl), gq rfl rfl⟩⟩) rfl) rfl rfl
      (fc 90 (.bool false) (hd_v rfl fun ρ hρ => ⟨rfl, ov_pickF rfl rfl rfl rfl ((hρ 86 (lmem rfl)).trans rfl) rfl rfl⟩) rfl rfl
      (fc 91 (.bool false) (hd_v rfl fun ρ hρ => ⟨rfl, opv_move rfl rfl ((hρ 90 (lmem rfl)).trans rfl)⟩) rfl rfl
      (fc 92 undef (hd_s rfl (fun ρ hρ => ⟨_, rfl, .inl ⟨_, ((hρ 91 (lmem rfl)).trans rfl), gq rfl rfl⟩⟩) rfl) rfl rfl
      (fc 93 undef (hd_s rfl (fun ρ hρ => ⟨_, rfl, .inl ⟨_, ((hρ 91 (lmem rfl)).trans rfl), gq rfl rfl⟩⟩) rfl) rfl rfl
      (fc 94 undef (hd_s rfl (fun ρ hρ => ⟨_, rfl, .inl ⟨_, ((hρ 91 (lmem rfl)).trans rfl), gq rfl rfl⟩⟩) rfl) rfl rfl
      (fc 95 undef (hd_s rfl (fun ρ hρ => ⟨_, rfl, .inl ⟨_, ((hρ 91 (lmem rfl)).trans rfl), gq rfl rfl⟩⟩) rfl) rfl rfl
      (fc 96 (.bool false) (hd_v rfl fun ρ hρ => ⟨rfl, ov_pickF rfl rfl rfl rfl ((hρ 91 (lmem rfl)).trans rfl) rfl rfl⟩) rfl rfl
      (fc 97 (.bool false) (hd_v rfl fun ρ hρ => ⟨rfl, opv_move rfl rfl ((hρ 96 (lmem rfl)).trans rfl)⟩) rfl rfl
      (fc 98 undef (hd_s rfl (fun ρ hρ => ⟨_, rfl, .inl ⟨_, ((hρ 97 (lmem rfl)).trans rfl), gq rfl rfl⟩⟩) rfl) rfl rfl
      (fc 99 undef (hd_s rfl (fun ρ hρ => ⟨_, rfl, .inl ⟨_, ((hρ 97 (lmem rfl)).trans rfl), gq rfl rfl⟩⟩) rfl) rfl rfl
      (fc 100 undef (hd_s rfl (fun ρ hρ => ⟨_, rfl, .inl ⟨_, ((hρ 97 (lmem rfl)).trans rfl), gq rfl rfl⟩⟩) rfl) rfl rfl
      (fc 101 (.bool false) (hd_v rfl fun ρ hρ => ⟨rfl, ov_pickF rfl rfl rfl rfl ((hρ 97 (lmem rfl)).trans rfl) rfl rfl⟩) rfl rfl
      (fc 6 (.bool false) (hd_v rfl fun ρ hρ => ⟨rfl, opv_assign rfl rfl ((hρ 101 (lmem rfl)).trans rfl)⟩) rfl rfl
      ffn)))))))))))))))))))) ?_
    refine lt_end ?_
    exact ago_retE (rfl : C8_45 = .ret) (r := false) (ares_1 rfl (oneT rfl)) rfl H
theorem S8_1s_ok (Q : Bool → AW → Prop) (E : List PanicEntry → AW → Prop)  (nx1 : ByteArray → Int → Int → Value → Int → AW → Prop) (L1 : ∀ (ρ : Env) (s_0 : ByteArray) (n_2 : Int) (k_7 : Int) (l_8 : Value) (i_9 : Int) (aw : AW) (h0 : ρ 0 = .string s_0) (h2 : ρ 2 = .int .i64 n_2) (h7 : ρ 7 = .int .i64 k_7) (h8 : ρ 8 = l_8) (h9 : ρ 9 = .int .i64 i_9), nx1 s_0 n_2 k_7 l_8 i_9 aw → AGo prog 102 [.code C8_19, .inLoop C8_19, .inBlock 0, .code C8_29] ρ [] aw (RR prog f8 102 sh8 Q E)) (ρ : Env) (s_0 : ByteArray) (n_2 : Int) (k_7 : Int) (l_8 : Value) (i_9 : Int) (aw : AW) (h0 : ρ 0 = .string s_0) (h2 : ρ 2 = .int .i64 n_2) (h7 : ρ 7 = .int .i64 k_7) (h8 : ρ 8 = l_8) (h9 : ρ 9 = .int .i64 i_9) (H : S8_1s Q E  nx1 s_0 n_2 k_7 l_8 i_9 aw) :
    AGo prog 102 [.code C8_19, .inLoop C8_19, .inBlock 0, .code C8_29] ρ [] aw (RR prog f8 102 sh8 Q E) := by
  unfold S8_1s at H
  refine ago_seqE (rfl : C8_19 = .seq C8_20 C8_25) ?_
  refine ago_seqE (rfl : C8_20 = .seq C8_21 C8_22) ?_
  refine ago_regE (rfl : C8_21 = .region 6 R8_6 false) (l := [0, 1, 2]) rfl ?_
  refine lj 25 R8_6_N rfl rfl rfl (opv_move rfl rfl h9) ?_
  refine lj 26 R8_6_N rfl rfl rfl (opv_move rfl rfl h7) ?_
  refine lj 27 R8_6_N rfl rfl rfl (opv_lt rfl rfl rfl rfl rfl) ?_
  refine aops_nil ?_
  refine ago_condE  (rfl : C8_22 = .cond (.tmp 27) C8_23 C8_24) rfl rfl (fun hb100 => ?_) (fun hb100 => ?_)
  · replace H := cnd_t H hb100
    refine ago_skipE (rfl : C8_23 = .skip) ?_
    refine ago_seqE (rfl : C8_25 = .seq C8_26 C8_28) ?_
    refine ago_blockE (rfl : C8_26 = .block 1 C8_27) ?_
    refine ago_regE (rfl : C8_27 = .region 8 R8_8 false) (l := [0, 1, 2, 3, 4, 5]) rfl ?_
    refine lj 30 R8_8_N rfl rfl rfl (opv_move rfl rfl h8) ?_
    refine lj 31 R8_8_N rfl rfl rfl (opv_move rfl rfl h9) ?_
    refine lj 32 R8_8_N rfl rfl rfl (ov_bld (r := [.int .u8 0, .int .i64 i_9, .int .i64 0, .string (⟨#[]⟩ : ByteArray)]) rfl rfl bo34 (mp_cons rfl rfl) (fillP rfl rfl rfl rfl (fillN rfl))) ?_
    obtain ⟨p101, aw102, hp103, ha104, H⟩ := H
    refine lj 33 R8_8_N rfl rfl rfl (ov_bsA (r := [.int .u8 0, .int .i64 i_9, .int .i64 0, .string (⟨#[]⟩ : ByteArray)]) (vs := [.agg #[.int .u8 0, .int .i64 i_9, .int .i64 0, .string (⟨#[]⟩ : ByteArray)]]) rfl rfl underlying35 sz34 z34 rfl rfl rfl rfl rfl (mp_cons rfl rfl) (.cons (v := .agg #[.int .u8 0, .int .i64 i_9, .int .i64 0, .string (⟨#[]⟩ : ByteArray)]) (xs := [.int .u8 0, .int .i64 i_9, .int .i64 0, .string (⟨#[]⟩ : ByteArray)]) (r := []) rfl rfl .nil) hp103 ha104) ?_
    obtain ⟨v105, aw106, hq107, H⟩ := H
    refine lj 34 R8_8_N rfl rfl rfl (ov_app rfl rfl rfl rfl underlying35 sz34 by34 underlying35 rfl z34 rfl (by decide) (by decide) rfl rfl hq107) ?_
    refine lj 8 R8_8_N rfl rfl rfl (opv_assign rfl rfl rfl) ?_
    refine aops_nil ?_
    refine ago_inBlock ?_
    refine ago_regE (rfl : C8_28 = .region 7 R8_7 false) (l := [0, 1, 2]) rfl ?_
    refine lj 28 R8_7_N rfl rfl rfl (opv_move rfl rfl h9) ?_
    refine lj 29 R8_7_N rfl rfl rfl (opv_add rfl rfl rfl rfl rfl) ?_
    refine lj 9 R8_7_N rfl rfl rfl (opv_assign rfl rfl rfl) ?_
    refine aops_nil ?_
    refine ago_inLoop ?_
    exact L1 _ s_0 n_2 k_7 v105 (IntKind.i64.wrap (i_9 + 1)) aw106 h0 h2 h7 rfl rfl H
  replace H := cnd_f H hb100
  refine ago_exitE (rfl : C8_24 = .exit 0) rfl ?_
  refine ago_seqE (rfl : C8_29 = .seq C8_30 C8_31) ?_
  refine ago_regE (rfl : C8_30 = .region 9 R8_9 false) (l := [0, 1, 2, 3, 4, 5, 6, 7, 8, 9, 10, 11, 12]) rfl ?_
  refine lj 35 R8_9_N rfl rfl rfl (opv_move rfl rfl h8) ?_
  refine lj 36 R8_9_N rfl rfl rfl (opv_move rfl rfl h7) ?_
  refine lj 37 R8_9_N rfl rfl rfl (opv_add rfl rfl rfl rfl rfl) ?_
  refine lj 38 R8_9_N rfl rfl rfl (ov_bld (r := [.int .u8 24, .int .i64 (IntKind.i64.wrap (k_7 + 4)), .int .i64 0, .string (⟨#[]⟩ : ByteArray)]) rfl rfl bo34 (mp_cons rfl (mp_cons rfl rfl)) (fillP rfl rfl rfl rfl (fillP rfl rfl rfl rfl (fillN rfl)))) ?_
  refine lj 39 R8_9_N rfl rfl rfl (opv_move rfl rfl h2) ?_
  refine lj 40 R8_9_N rfl rfl rfl (ov_bld (r := [.int .u8 0, .int .i64 n_2, .int .i64 0, .string (⟨#[]⟩ : ByteArray)]) rfl rfl bo34 (mp_cons rfl rfl) (fillP rfl rfl rfl rfl (fillN rfl))) ?_
  refine lj 41 R8_9_N rfl rfl rfl (opv_move rfl rfl h2) ?_
  refine lj 42 R8_9_N rfl rfl rfl (ov_bld (r := [.int .u8 0, .int .i64 n_2, .int .i64 0, .string (⟨#[]⟩ : ByteArray)]) rfl rfl bo34 (mp_cons rfl rfl) (fillP rfl rfl rfl rfl (fillN rfl))) ?_
  refine lj 43 R8_9_N rfl rfl rfl (opv_move rfl rfl h0) ?_
  refine lj 44 R8_9_N rfl rfl rfl (ov_bld (r := [.int .u8 26, .int .i64 0, .int .i64 0, .string s_0]) rfl rfl bo34 (mp_cons rfl (mp_cons rfl rfl)) (fillP rfl rfl rfl rfl (fillP rfl rfl rfl rfl (fillN rfl)))) ?_
  obtain ⟨p108, aw109, hp110, ha111, H⟩ := H
  refine lj 45 R8_9_N rfl rfl rfl (ov_bsA (r := [.int .u8 24, .int .i64 (IntKind.i64.wrap (k_7 + 4)), .int .i64 0, .string (⟨#[]⟩ : ByteArray), .int .u8 0, .int .i64 n_2, .int .i64 0, .string (⟨#[]⟩ : ByteArray), .int .u8 0, .int .i64 n_2, .int .i64 0, .string (⟨#[]⟩ : ByteArray), .int .u8 26, .int .i64 0, .int .i64 0, .string s_0]) (vs := [.agg #[.int .u8 24, .int .i64 (IntKind.i64.wrap (k_7 + 4)), .int .i64 0, .string (⟨#[]⟩ : ByteArray)], .agg #[.int .u8 0, .int .i64 n_2, .int .i64 0, .string (⟨#[]⟩ : ByteArray)], .agg #[.int .u8 0, .int .i64 n_2, .int .i64 0, .string (⟨#[]⟩ : ByteArray)], .agg #[.int .u8 26, .int .i64 0, .int .i64 0, .string s_0]]) rfl rfl underlying35 sz34 z34 rfl rfl rfl rfl rfl (mp_cons rfl (mp_cons rfl (mp_cons rfl (mp_cons rfl rfl)))) (.cons (v := .agg #[.int .u8 24, .int .i64 (IntKind.i64.wrap (k_7 + 4)), .int .i64 0, .string (⟨#[]⟩ : ByteArray)]) (xs := [.int .u8 24, .int .i64 (IntKind.i64.wrap (k_7 + 4)), .int .i64 0, .string (⟨#[]⟩ : ByteArray)]) (r := [.int .u8 0, .int .i64 n_2, .int .i64 0, .string (⟨#[]⟩ : ByteArray), .int .u8 0, .int .i64 n_2, .int .i64 0, .string (⟨#[]⟩ : ByteArray), .int .u8 26, .int .i64 0, .int .i64 0, .string s_0]) rfl rfl (.cons (v := .agg #[.int .u8 0, .int .i64 n_2, .int .i64 0, .string (⟨#[]⟩ : ByteArray)]) (xs := [.int .u8 0, .int .i64 n_2, .int .i64 0, .string (⟨#[]⟩ : ByteArray)]) (r := [.int .u8 0, .int .i64 n_2, .int .i64 0, .string (⟨#[]⟩ : ByteArray), .int .u8 26, .int .i64 0, .int .i64 0, .string s_0]) rfl rfl (.cons (v := .agg #[.int .u8 0, .int .i64 n_2, .int .i64 0, .string (⟨#[]⟩ : ByteArray)]) (xs := [.int .u8 0, .int .i64 n_2, .int .i64 0, .string (⟨#[]⟩ : ByteArray)]) (r := [.int .u8 26, .int .i64 0, .int .i64 0, .string s_0]) rfl rfl (.cons (v := .agg #[.int .u8 26, .int .i64 0, .int .i64 0, .string s_0]) (xs := [.int .u8 26, .int .i64 0, .int .i64 0, .string s_0]) (r := []) rfl rfl .nil)))) hp110 ha111) ?_
  obtain ⟨v112, aw113, hq114, H⟩ := H
  refine lj 46 R8_9_N rfl rfl rfl (ov_app rfl rfl rfl rfl underlying35 sz34 by34 underlying35 rfl z34 rfl (by decide) (by decide) rfl rfl hq114) ?_
  refine lj 8 R8_9_N rfl rfl rfl (opv_assign rfl rfl rfl) ?_
  refine aops_nil ?_
  refine ago_seqE (rfl : C8_31 = .seq C8_32 C8_37) ?_
  refine ago_seqE (rfl : C8_32 = .seq C8_33 C8_34) ?_
  refine ago_cut (fun ρ => ρ 0 = .string s_0 ∧ ρ 7 = .int .i64 k_7 ∧ ρ 8 = v112 ∧ True) ⟨h0, h7, rfl, trivial⟩ (fun ρ ⟨h0, h7, h8, _⟩ => ?_)
  refine ago_regE (rfl : C8_33 = .region 10 R8_10 false) (l := [0, 1]) rfl ?_
  refine lj 47 R8_10_N rfl rfl rfl (opv_move rfl rfl h7) ?_
  refine lj 48 R8_10_N rfl rfl rfl (opv_gt rfl rfl rfl rfl rfl) ?_
  refine aops_nil ?_
  refine ago_condE  (rfl : C8_34 = .cond (.tmp 48) C8_35 C8_36) rfl rfl (fun hb115 => ?_) (fun hb115 => ?_)
  · replace H := cnd_t H hb115
    refine ago_regE (rfl : C8_35 = .region 11 R8_11 false) (l := [0, 1, 2, 3, 4, 5]) rfl ?_
    refine lj 49 R8_11_N rfl rfl rfl (opv_move rfl rfl h8) ?_
    refine lj 50 R8_11_N rfl rfl rfl (opv_move rfl rfl h7) ?_
    refine lj 51 R8_11_N rfl rfl rfl (ov_bld (r := [.int .u8 18, .int .i64 k_7, .int .i64 0, .string (⟨#[]⟩ : ByteArray)]) rfl rfl bo34 (mp_cons rfl (mp_cons rfl rfl)) (fillP rfl rfl rfl rfl (fillP rfl rfl rfl rfl (fillN rfl)))) ?_
    obtain ⟨p116, aw117, hp118, ha119, H⟩ := H
    refine lj 52 R8_11_N rfl rfl rfl (ov_bsA (r := [.int .u8 18, .int .i64 k_7, .int .i64 0, .string (⟨#[]⟩ : ByteArray)]) (vs := [.agg #[.int .u8 18, .int .i64 k_7, .int .i64 0, .string (⟨#[]⟩ : ByteArray)]]) rfl rfl underlying35 sz34 z34 rfl rfl rfl rfl rfl (mp_cons rfl rfl) (.cons (v := .agg #[.int .u8 18, .int .i64 k_7, .int .i64 0, .string (⟨#[]⟩ : ByteArray)]) (xs := [.int .u8 18, .int .i64 k_7, .int .i64 0, .string (⟨#[]⟩ : ByteArray)]) (r := []) rfl rfl .nil) hp118 ha119) ?_
    obtain ⟨v120, aw121, hq122, H⟩ := H
    refine lj 53 R8_11_N rfl rfl rfl (ov_app rfl rfl rfl rfl underlying35 sz34 by34 underlying35 rfl z34 rfl (by decide) (by decide) rfl rfl hq122) ?_
    refine lj 8 R8_11_N rfl rfl rfl (opv_assign rfl rfl rfl) ?_
    refine aops_nil ?_
    exact S8_2_ok Q E  _ s_0 v120 aw121 h0 rfl H
  replace H := cnd_f H hb115
  refine ago_skipE (rfl : C8_36 = .skip) ?_
  exact S8_2_ok Q E  _ s_0 v112 aw113 h0 h8 H
theorem S8_1_ok (Q : Bool → AW → Prop) (E : List PanicEntry → AW → Prop)  : ∀ (n : Nat) (ρ : Env) (s_0 : ByteArray) (n_2 : Int) (k_7 : Int) (l_8 : Value) (i_9 : Int) (aw : AW) (h0 : ρ 0 = .string s_0) (h2 : ρ 2 = .int .i64 n_2) (h7 : ρ 7 = .int .i64 k_7) (h8 : ρ 8 = l_8) (h9 : ρ 9 = .int .i64 i_9), S8_1 Q E  n s_0 n_2 k_7 l_8 i_9 aw →
    AGo prog 102 [.code C8_19, .inLoop C8_19, .inBlock 0, .code C8_29] ρ [] aw (RR prog f8 102 sh8 Q E)
  | 0, _, _, _, _, _, _, _, _, _, _, _, _ => fun H => H.elim
  | n + 1, ρ, s_0, n_2, k_7, l_8, i_9, aw, h0, h2, h7, h8, h9 => fun H => S8_1s_ok Q E  _ (S8_1_ok Q E  n) ρ s_0 n_2 k_7 l_8 i_9 aw h0 h2 h7 h8 h9 H
theorem S8_0_ok (Q : Bool → AW → Prop) (E : List PanicEntry → AW → Prop)  (ρ : Env) (s_0 : ByteArray) (deep_1 : Int) (n_2 : Int) (aw : AW) (h0 : ρ 0 = .string s_0) (h1 : ρ 1 = .int .u8 deep_1) (h2 : ρ 2 = .int .i64 n_2) (H : S8_0 Q E  s_0 deep_1 n_2 aw) :
    AGo prog 102 [.code C8_0] ρ [] aw (RR prog f8 102 sh8 Q E) := by
  unfold S8_0 at H
  refine ago_seqE (rfl : C8_0 = .seq C8_1 C8_2) ?_
  refine ago_regE (rfl : C8_1 = .region 0 R8_0 false) (l := [0]) rfl ?_
  refine lj 6 R8_0_N rfl rfl rfl (opv_assign rfl rfl rfl) ?_
  refine aops_nil ?_
  refine ago_seqE (rfl : C8_2 = .seq C8_3 C8_10) ?_
  refine ago_seqE (rfl : C8_3 = .seq C8_4 C8_5) ?_
  refine ago_regE (rfl : C8_4 = .region 1 R8_1 false) (l := [0, 1, 2, 3, 4, 5, 6]) rfl ?_
  refine lc 14 R8_1_N rfl rfl rfl (opc_of rfl rfl is11 rfl) H (fun _ _ h => ⟨rfl, h⟩) fun r123 aw124 H => ?_
  refine lj 15 R8_1_N rfl rfl rfl (opv_not rfl rfl rfl) ?_
  refine lj 16 R8_1_N rfl rfl rfl (opv_move rfl rfl rfl) ?_
  rcases Bool.eq_false_or_eq_true (!r123) with hb125 | hb125
  · replace H := cnd_t H hb125
    refine ls 17 R8_1_N rfl rfl ⟨_, rfl, .inl ⟨_, rfl, gq hb125 rfl⟩⟩ ?_
    refine ls 18 R8_1_N rfl rfl ⟨_, rfl, .inl ⟨_, rfl, gq hb125 rfl⟩⟩ ?_
    refine ls 19 R8_1_N rfl rfl ⟨_, rfl, .inl ⟨_, rfl, gq hb125 rfl⟩⟩ ?_
    refine lj 20 R8_1_N rfl rfl rfl (ov_pickT rfl rfl rfl rfl rfl hb125 rfl) ?_
    refine aops_nil ?_
    refine ago_condE  (rfl : C8_5 = .cond (.tmp 20) C8_6 C8_9) rfl rfl (fun h => ?_) (fun h => tf h)
    refine ago_seqE (rfl : C8_6 = .seq C8_7 C8_8) ?_
    refine ago_regE (rfl : C8_7 = .region 2 R8_2 false) (l := [0, 1]) rfl ?_
    refine lc 21 R8_2_N rfl rfl rfl (opc_of rfl rfl is11 rfl) H (fun _ _ h => ⟨rfl, h⟩) fun r127 aw128 H => ?_
    refine lj 6 R8_2_N rfl rfl rfl (opv_assign rfl rfl rfl) ?_
    refine aops_nil ?_
    exact ago_retE (rfl : C8_8 = .ret) (r := r127) (ares_1 rfl (oneT rfl)) rfl H
  · replace H := cnd_f H hb125
    refine lj 17 R8_1_N rfl rfl ⟨_, rfl, .inl ⟨_, rfl, gq hb125 rfl⟩⟩ (opv_move rfl rfl h0) ?_
    refine lj 18 R8_1_N rfl rfl ⟨_, rfl, .inl ⟨_, rfl, gq hb125 rfl⟩⟩ (opv_lenS rfl rfl rfl underlying9 rfl) ?_
    refine lj 19 R8_1_N rfl rfl ⟨_, rfl, .inl ⟨_, rfl, gq hb125 rfl⟩⟩ (opv_gt rfl rfl rfl rfl rfl) ?_
    refine lj 20 R8_1_N rfl rfl rfl (ov_pickF rfl rfl rfl rfl rfl hb125 rfl) ?_
    refine aops_nil ?_
    refine ago_condE  (rfl : C8_5 = .cond (.tmp 20) C8_6 C8_9) rfl rfl (fun hb129 => ?_) (fun hb129 => ?_)
    · replace H := cnd_t H hb129
      refine ago_seqE (rfl : C8_6 = .seq C8_7 C8_8) ?_
      refine ago_regE (rfl : C8_7 = .region 2 R8_2 false) (l := [0, 1]) rfl ?_
      refine lc 21 R8_2_N rfl rfl rfl (opc_of rfl rfl is11 rfl) H (fun _ _ h => ⟨rfl, h⟩) fun r130 aw131 H => ?_
      refine lj 6 R8_2_N rfl rfl rfl (opv_assign rfl rfl rfl) ?_
      refine aops_nil ?_
      exact ago_retE (rfl : C8_8 = .ret) (r := r130) (ares_1 rfl (oneT rfl)) rfl H
    replace H := cnd_f H hb129
    refine ago_skipE (rfl : C8_9 = .skip) ?_
    refine ago_seqE (rfl : C8_10 = .seq C8_11 C8_12) ?_
    refine ago_regE (rfl : C8_11 = .region 3 R8_3 false) (l := [0, 1, 2, 3]) rfl ?_
    refine lj 22 R8_3_N rfl rfl rfl (opv_move rfl rfl h1) ?_
    refine lj 23 R8_3_N rfl rfl rfl (opv_conv rfl rfl underlying5 underlying3 rfl) ?_
    refine lj 24 R8_3_N rfl rfl rfl (opv_rem rfl rfl rfl rfl rfl (by decide)) ?_
    refine lj 7 R8_3_N rfl rfl rfl (opv_assign rfl rfl rfl) ?_
    refine aops_nil ?_
    refine ago_seqE (rfl : C8_12 = .seq C8_13 C8_14) ?_
    refine ago_cut (fun ρ => ρ 0 = .string s_0 ∧ ρ 2 = .int .i64 n_2 ∧ ρ 7 = .int .i64 (Int.tmod (IntKind.i64.wrap deep_1) 6) ∧ True) ⟨h0, h2, rfl, trivial⟩ (fun ρ ⟨h0, h2, h7, _⟩ => ?_)
    refine ago_regE (rfl : C8_13 = .region 4 R8_4 false) (l := [0]) rfl ?_
    refine lj 8 R8_4_N rfl rfl rfl (opv_assign rfl rfl rfl) ?_
    refine aops_nil ?_
    refine ago_seqE (rfl : C8_14 = .seq C8_15 C8_29) ?_
    refine ago_seqE (rfl : C8_15 = .seq C8_16 C8_17) ?_
    refine ago_regE (rfl : C8_16 = .region 5 R8_5 false) (l := [0]) rfl ?_
    refine lj 9 R8_5_N rfl rfl rfl (opv_assign rfl rfl rfl) ?_
    refine aops_nil ?_
    refine ago_blockE (rfl : C8_17 = .block 0 C8_18) ?_
    refine ago_loopE (rfl : C8_18 = .loop C8_19) ?_
    obtain ⟨n, H⟩ := H
    exact S8_1_ok Q E  n _ s_0 n_2 (Int.tmod (IntKind.i64.wrap deep_1) 6) (.slice none 0 0) 0 aw124 h0 h2 h7 rfl rfl H
theorem F8_ok {Q : Bool → AW → Prop} {E : List PanicEntry → AW → Prop} (s_0 : ByteArray) (deep_1 : Int) (n_2 : Int) (aw : AW) (H : S8_0 Q E s_0 deep_1 n_2 aw) : CallP prog 8 [.string s_0, .int .u8 deep_1, .int .i64 n_2] aw sh8 Q E :=
  callP_of func8 C8_is rfl (Nat.le_of_ble_eq_true rfl) (S8_0_ok Q E _ s_0 deep_1 n_2 aw rfl rfl rfl H)
def C13_0 := bodyOf f13
theorem C13_is : f13.body = some C13_0 := by kernel_rfl
def C13_1 := cl C13_0
def R13_0 := regOps C13_1
def C13_2 := cr C13_0
def C13_3 := cl C13_2
def R13_1 := regOps C13_3
def C13_4 := cr C13_2
def C13_5 := cl C13_4
def C13_6 := cl C13_5
def R13_2 := regOps C13_6
def C13_7 := cr C13_5
def C13_8 := cl C13_7
def C13_9 := cl C13_8
def R13_3 := regOps C13_9
def C13_10 := cr C13_8
def C13_11 := cr C13_7
def C13_12 := cr C13_4
def C13_13 := cl C13_12
def R13_4 := regOps C13_13
def C13_14 := cr C13_12
theorem R13_0_N : dstsOk 27 R13_0 = true := by decide +kernel
theorem R13_1_N : dstsOk 27 R13_1 = true := by decide +kernel
theorem R13_2_N : dstsOk 27 R13_2 = true := by decide +kernel
theorem R13_3_N : dstsOk 27 R13_3 = true := by decide +kernel
theorem R13_4_N : dstsOk 27 R13_4 = true := by decide +kernel
def S13_0 (Q : (Int × Int × ByteArray × ByteArray × Value × Int × Value) → AW → Prop) (E : List PanicEntry → AW → Prop)  (l_0 : Value) (fuel_1 : Int) (aw : AW) : Prop :=
  alc aw [.int .i64 0, .int .u64 0, .string (⟨#[]⟩ : ByteArray), .string (⟨#[]⟩ : ByteArray), (.slice none 0 0), .int .i64 0] 29 0 fun p1 aw2 =>
  CallP prog 15 [.int .i64 4000, .int .i64 8] aw2 sh15 (fun r5 aw6 =>
  cnd (!decide (r5.2 = 0)) (st aw6 p1 [.int .i64 3, .int .u64 0, .string (⟨#[]⟩ : ByteArray), .string (⟨#[]⟩ : ByteArray), (.slice none 0 0), .int .i64 0] fun aw9 =>
  ptr p1 fun b16 i17 => gI .i64 aw9 b16 i17 fun c19 => gI .u64 aw9 b16 (i17 + 1) fun c20 => gS aw9 b16 (i17 + 2) fun c21 => gS aw9 b16 (i17 + 3) fun c22 => gV aw9 b16 (i17 + 4) fun c23 => gI .i64 aw9 b16 (i17 + 5) fun c24 => Q (c19, c20, c21, c22, c23, c24, (.pointer none)) aw9) (one l_0 = true ∧ alcS aw6 [.int .i64 0, l_0] 43 2 1 fun p32 aw33 =>
  CallP prog 16 [r5.1, p32] aw33 sh16 (fun r36 aw37 =>
  cnd (!decide (r36 = 0)) (False) (CallP prog 17 [r5.1, .int .i64 0, .int .i64 fuel_1, .int .i64 10, .int .i64 50] aw37 sh17 (fun r39 aw40 =>
  st aw40 p1 [.int .i64 r39.1, .int .u64 r39.2.1, .string r39.2.2.1, .string r39.2.2.2.1, r39.2.2.2.2.1, .int .i64 r39.2.2.2.2.2] fun aw41 =>
  ptr p1 fun b48 i49 => gI .i64 aw41 b48 i49 fun c51 => gI .u64 aw41 b48 (i49 + 1) fun c52 => gS aw41 b48 (i49 + 2) fun c53 => gS aw41 b48 (i49 + 3) fun c54 => gV aw41 b48 (i49 + 4) fun c55 => gI .i64 aw41 b48 (i49 + 5) fun c56 => Q (c51, c52, c53, c54, c55, c56, r5.1) aw41) E)) E)) E
theorem S13_0_ok (Q : (Int × Int × ByteArray × ByteArray × Value × Int × Value) → AW → Prop) (E : List PanicEntry → AW → Prop)  (ρ : Env) (l_0 : Value) (fuel_1 : Int) (aw : AW) (h0 : ρ 0 = l_0) (h1 : ρ 1 = .int .i64 fuel_1) (H : S13_0 Q E  l_0 fuel_1 aw) :
    AGo prog 27 [.code C13_0] ρ [] aw (RR prog f13 27 sh13 Q E) := by
  unfold S13_0 at H
  refine ago_seqE (rfl : C13_0 = .seq C13_1 C13_2) ?_
  refine ago_regE (rfl : C13_1 = .region 0 R13_0 false) (l := [0, 1]) rfl ?_
  obtain ⟨p1, aw2, hp3, ha4, H⟩ := H
  refine lj 4 R13_0_N rfl rfl rfl (ov_alloc rfl z29 rfl rfl hp3 ha4) ?_
  refine lj 5 R13_0_N rfl rfl rfl (opv_assign rfl rfl rfl) ?_
  refine aops_nil ?_
  refine ago_seqE (rfl : C13_2 = .seq C13_3 C13_4) ?_
  refine ago_regE (rfl : C13_3 = .region 1 R13_1 false) (l := [0, 1, 2, 3, 4, 5]) rfl ?_
  refine lc 9 R13_1_N rfl rfl rfl (opc_of rfl rfl is15 (ma_cons rfl (ma_cons rfl rfl))) H (fun _ _ h => ⟨rfl, h⟩) fun r5 aw6 H => ?_
  refine lj 8 R13_1_N rfl rfl rfl (opv_move rfl rfl rfl) ?_
  refine lj 10 R13_1_N rfl rfl rfl (opv_extract rfl rfl rfl rfl) ?_
  refine lj 11 R13_1_N rfl rfl rfl (opv_extract rfl rfl rfl rfl) ?_
  refine lj 6 R13_1_N rfl rfl rfl (opv_assign rfl rfl rfl) ?_
  refine lj 7 R13_1_N rfl rfl rfl (opv_assign rfl rfl rfl) ?_
  refine aops_nil ?_
  refine ago_seqE (rfl : C13_4 = .seq C13_5 C13_12) ?_
  refine ago_seqE (rfl : C13_5 = .seq C13_6 C13_7) ?_
  refine ago_regE (rfl : C13_6 = .region 2 R13_2 false) (l := [0, 1, 2, 3, 4, 5, 6, 7, 8, 9]) rfl ?_
  refine lj 12 R13_2_N rfl rfl rfl (opv_move rfl rfl rfl) ?_
  refine lj 13 R13_2_N rfl rfl rfl (opv_neI rfl rfl rfl rfl rfl) ?_
  refine lj 14 R13_2_N rfl rfl rfl (opv_move rfl rfl rfl) ?_
  rcases Bool.eq_false_or_eq_true (!decide (r5.2 = 0)) with hb7 | hb7
  · replace H := cnd_t H hb7
    refine ls 15 R13_2_N rfl rfl ⟨_, rfl, .inl ⟨_, rfl, gq hb7 rfl⟩⟩ ?_
    refine ls 16 R13_2_N rfl rfl ⟨_, rfl, .inl ⟨_, rfl, gq hb7 rfl⟩⟩ ?_
    refine ls 17 R13_2_N rfl rfl ⟨_, rfl, .inl ⟨_, rfl, gq hb7 rfl⟩⟩ ?_
    refine ls 18 R13_2_N rfl rfl ⟨_, rfl, .inl ⟨_, rfl, gq hb7 rfl⟩⟩ ?_
    refine ls 19 R13_2_N rfl rfl ⟨_, rfl, .inl ⟨_, rfl, gq hb7 rfl⟩⟩ ?_
    refine ls 20 R13_2_N rfl rfl ⟨_, rfl, .inl ⟨_, rfl, gq hb7 rfl⟩⟩ ?_
    refine lj 21 R13_2_N rfl rfl rfl (ov_pickT rfl rfl rfl rfl rfl hb7 rfl) ?_
    refine aops_nil ?_
    refine ago_condE  (rfl : C13_7 = .cond (.tmp 21) C13_8 C13_11) rfl rfl (fun h => ?_) (fun h => tf h)
    refine ago_seqE (rfl : C13_8 = .seq C13_9 C13_10) ?_
    refine ago_cut (fun ρ => ρ 4 = p1 ∧ True) ⟨rfl, trivial⟩ (fun ρ ⟨h4, _⟩ => ?_)
    refine ago_regE (rfl : C13_9 = .region 3 R13_3 false) (l := [0, 1, 2]) rfl ?_
    refine lj 22 R13_3_N rfl rfl rfl (ov_bld (r := [.int .i64 3, .int .u64 0, .string (⟨#[]⟩ : ByteArray), .string (⟨#[]⟩ : ByteArray), (.slice none 0 0), .int .i64 0]) rfl rfl bo29 (mp_cons rfl rfl) (fillP rfl rfl rfl rfl (fillN rfl))) ?_
    obtain ⟨b10, i11, aw9, hp12, hw13, ho14, ha15, H⟩ := H
    refine lk (dt := none) R13_3_N rfl rfl rfl (ov_st rfl rfl rfl h4 rfl rfl sz29 hp12 hw13 ho14 ha15) ?_
    refine lj 5 R13_3_N rfl rfl rfl (opv_assign rfl rfl rfl) ?_
    refine aops_nil ?_
    obtain ⟨b16, i17, hp18, c19, hg25, c20, hg26, c21, hg27, c22, hg28, c23, hg29, c24, hg30, H⟩ := H
    exact ago_retE (rfl : C13_10 = .ret) (r := (c19, c20, c21, c22, c23, c24, (.pointer none))) (ares_2 rfl (oneN h4 hp18 underlying29 rfl sz29 (getN_cons hg25 (getN_cons hg26 (getN_cons hg27 (getN_cons hg28 (getN_cons hg29 (getN_cons hg30 getN_nil))))))) (oneT rfl)) rfl H
  · replace H := cnd_f H hb7
    refine lj 15 R13_2_N rfl rfl ⟨_, rfl, .inl ⟨_, rfl, gq hb7 rfl⟩⟩ (opv_move rfl rfl rfl) ?_
    refine lj 16 R13_2_N rfl rfl ⟨_, rfl, .inl ⟨_, rfl, gq hb7 rfl⟩⟩ (opv_move rfl rfl h0) ?_
    obtain ⟨h131, H⟩ := H
    refine lj 17 R13_2_N rfl rfl ⟨_, rfl, .inl ⟨_, rfl, gq hb7 rfl⟩⟩ (ov_bld (r := [.int .i64 0, l_0]) rfl rfl bo43 (mp_cons rfl rfl) (fillP (cells_one h131) rfl rfl rfl (fillN rfl))) ?_
    obtain ⟨p32, aw33, hp34, ha35, H⟩ := H
    refine lj 18 R13_2_N rfl rfl ⟨_, rfl, .inl ⟨_, rfl, gq hb7 rfl⟩⟩ (ov_bsA (r := [.int .i64 0, l_0]) (vs := [.agg #[.int .i64 0, l_0]]) rfl rfl underlying44 sz43 z43 rfl rfl rfl rfl rfl (mp_cons rfl rfl) (.cons (v := .agg #[.int .i64 0, l_0]) (xs := [.int .i64 0, l_0]) (r := []) rfl rfl .nil) hp34 ha35) ?_
    refine lc 19 R13_2_N rfl rfl ⟨_, rfl, .inl ⟨_, rfl, gq hb7 rfl⟩⟩ (opc_of rfl rfl is16 (ma_cons rfl (ma_cons rfl rfl))) H (fun _ _ h => ⟨rfl, h⟩) fun r36 aw37 H => ?_
    refine lj 20 R13_2_N rfl rfl ⟨_, rfl, .inl ⟨_, rfl, gq hb7 rfl⟩⟩ (opv_neI rfl rfl rfl rfl rfl) ?_
    refine lj 21 R13_2_N rfl rfl rfl (ov_pickF rfl rfl rfl rfl rfl hb7 rfl) ?_
    refine aops_nil ?_
    refine ago_condE  (rfl : C13_7 = .cond (.tmp 21) C13_8 C13_11) rfl rfl (fun hb38 => ?_) (fun hb38 => ?_)
    · exact (cnd_t H hb38).elim
    replace H := cnd_f H hb38
    refine ago_skipE (rfl : C13_11 = .skip) ?_
    refine ago_seqE (rfl : C13_12 = .seq C13_13 C13_14) ?_
    refine ago_cut (fun ρ => ρ 1 = .int .i64 fuel_1 ∧ ρ 4 = p1 ∧ ρ 6 = r5.1 ∧ True) ⟨h1, rfl, rfl, trivial⟩ (fun ρ ⟨h1, h4, h6, _⟩ => ?_)
    refine ago_regE (rfl : C13_13 = .region 4 R13_4 false) (l := [0, 1, 2, 3, 4, 5]) rfl ?_
    refine lj 23 R13_4_N rfl rfl rfl (opv_move rfl rfl h6) ?_
    refine lj 24 R13_4_N rfl rfl rfl (opv_move rfl rfl h1) ?_
    refine lc 25 R13_4_N rfl rfl rfl (opc_of rfl rfl is17 (ma_cons rfl (ma_cons rfl (ma_cons rfl (ma_cons rfl (ma_cons rfl rfl)))))) H (fun _ _ h => ⟨rfl, h⟩) fun r39 aw40 H => ?_
    refine lj 26 R13_4_N rfl rfl rfl (opv_move rfl rfl h6) ?_
    obtain ⟨b42, i43, aw41, hp44, hw45, ho46, ha47, H⟩ := H
    refine lk (dt := none) R13_4_N rfl rfl rfl (ov_st rfl rfl rfl h4 rfl rfl sz29 hp44 hw45 ho46 ha47) ?_
    refine lj 5 R13_4_N rfl rfl rfl (opv_assign rfl rfl rfl) ?_
    refine aops_nil ?_
    obtain ⟨b48, i49, hp50, c51, hg57, c52, hg58, c53, hg59, c54, hg60, c55, hg61, c56, hg62, H⟩ := H
    exact ago_retE (rfl : C13_14 = .ret) (r := (c51, c52, c53, c54, c55, c56, r5.1)) (ares_2 rfl (oneN h4 hp50 underlying29 rfl sz29 (getN_cons hg57 (getN_cons hg58 (getN_cons hg59 (getN_cons hg60 (getN_cons hg61 (getN_cons hg62 getN_nil))))))) (oneT rfl)) rfl H
theorem F13_ok {Q : (Int × Int × ByteArray × ByteArray × Value × Int × Value) → AW → Prop} {E : List PanicEntry → AW → Prop} (l_0 : Value) (fuel_1 : Int) (aw : AW) (H : S13_0 Q E l_0 fuel_1 aw) : CallP prog 13 [l_0, .int .i64 fuel_1] aw sh13 Q E :=
  callP_of func13 C13_is rfl (Nat.le_of_ble_eq_true rfl) (S13_0_ok Q E _ l_0 fuel_1 aw rfl rfl H)
end
end Go.Proofs.Tryd
