/- Printed by a program of the prover: what the Go functions of this seat do, in steps. -/
import Derived.Test.YtfoceofohlpafaaDoorMaF
set_option linter.unusedSectionVars false
set_option linter.unusedSimpArgs false
set_option linter.unusedVariables false
namespace Go.Proofs.Tryd
open Go Go.Am Go.RowKit
set_option maxHeartbeats 4000000
set_option maxRecDepth 100000
noncomputable section
variable [SymE]
def C7_0 := bodyOf f7
theorem C7_is : f7.body = some C7_0 := by kernel_rfl
def C7_1 := cl C7_0
def R7_0 := regOps C7_1
def C7_2 := cr C7_0
def C7_3 := cl C7_2
def C7_4 := cl C7_3
def R7_1 := regOps C7_4
def C7_5 := cr C7_3
def C7_6 := cl C7_5
def C7_7 := cl C7_6
def R7_2 := regOps C7_7
def C7_8 := cr C7_6
def C7_9 := cr C7_5
def C7_10 := cr C7_2
def C7_11 := cl C7_10
def R7_3 := regOps C7_11
def C7_12 := cr C7_10
def C7_13 := cl C7_12
def R7_4 := regOps C7_13
def C7_14 := cr C7_12
theorem R7_0_N : dstsOk 40 R7_0 = true := by decide +kernel
theorem R7_1_N : dstsOk 40 R7_1 = true := by decide +kernel
theorem R7_2_N : dstsOk 40 R7_2 = true := by decide +kernel
theorem R7_3_N : dstsOk 40 R7_3 = true := by decide +kernel
theorem R7_4_N : dstsOk 40 R7_4 = true := by decide +kernel
theorem R7_4_O : linOk R7_4 [0, 1, 2, 3, 4, 5, 6, 7, 8, 10, 11, 13] [(9, [10, 11, 13], []), (12, [13], []), (14, [], []), (15, [], [16, 17, 18, 19, 20, 21, 22, 23])] = true := by decide +kernel
def S7_0 (Q : Bool → AW → Prop) (E : List PanicEntry → AW → Prop)  (n_0 : Int) (aw : AW) : Prop :=
  CallP prog 11 [] aw sh11 (fun r1 aw2 =>
  cnd (!r1) (Q false aw2) (alcS aw2 [.int .u8 5, .int .i64 1, .int .i64 0, .string (⟨#[]⟩ : ByteArray), .int .u8 0, .int .i64 n_0, .int .i64 0, .string (⟨#[]⟩ : ByteArray), .int .u8 7, .int .i64 0, .int .i64 0, .string (⟨#[]⟩ : ByteArray), .int .u8 8, .int .i64 0, .int .i64 0, .string (⟨#[]⟩ : ByteArray)] 34 4 4 fun p4 aw5 =>
  CallP prog 13 [p4, .int .i64 1] aw5 sh13 (fun r8 aw9 =>
  alc aw9 [.int .i64 0, .int .u64 0, .string (⟨#[]⟩ : ByteArray), .string (⟨#[]⟩ : ByteArray), (.slice none 0 0), .int .i64 0] 29 0 fun p10 aw11 =>
  st aw11 p10 [.int .i64 r8.1, .int .u64 r8.2.1, .string r8.2.2.1, .string r8.2.2.2.1, r8.2.2.2.2.1, .int .i64 r8.2.2.2.2.2.1] fun aw14 =>
  nilB (.pointer 77) r8.2.2.2.2.2.2 (.pointer none) fun q21 =>
  cnd (!q21) (fldA p10 0 fun p25 =>
  ldI .i64 aw14 p25 fun x33 =>
  cnd (decide (x33 = 0)) (fldA p10 1 fun p36 =>
  ldI .u64 aw14 p36 fun x44 =>
  CallP prog 18 [r8.2.2.2.2.2.2] aw14 sh18 (fun r46 aw47 =>
  again1 aw47 p36 (.int .u64 x44) ∧ CallP prog 19 [r46, .int .u64 x44] aw47 sh19 (fun r48 aw49 =>
  CallP prog 12 [.int .i64 n_0] aw49 sh12 (fun r50 aw51 =>
  CallP prog 20 [.int .i64 r50] aw51 sh20 (fun r52 aw53 =>
  cnd (decide (r48 = r52)) (fldA p10 5 fun p55 =>
  ldI .i64 aw53 p55 fun x63 =>
  Q (decide (x63 = 0)) aw53) (Q false aw53)) E) E) E) E) (Q false aw14)) (Q false aw14)) E)) E
theorem S7_0_ok (Q : Bool → AW → Prop) (E : List PanicEntry → AW → Prop)  (ρ : Env) (n_0 : Int) (aw : AW) (h0 : ρ 0 = .int .i64 n_0) (H : S7_0 Q E  n_0 aw) :
    AGo prog 40 [.code C7_0] ρ [] aw (RR prog f7 40 sh7 Q E) := by
  unfold S7_0 at H
  refine ago_seqE (rfl : C7_0 = .seq C7_1 C7_2) ?_
  refine ago_regE (rfl : C7_1 = .region 0 R7_0 false) (l := [0]) rfl ?_
  refine lj 2 R7_0_N rfl rfl rfl (opv_assign rfl rfl rfl) ?_
  refine aops_nil ?_
  refine ago_seqE (rfl : C7_2 = .seq C7_3 C7_10) ?_
  refine ago_seqE (rfl : C7_3 = .seq C7_4 C7_5) ?_
  refine ago_regE (rfl : C7_4 = .region 1 R7_1 false) (l := [0, 1]) rfl ?_
  refine lc 5 R7_1_N rfl rfl rfl (opc_of rfl rfl is11 rfl) H (fun _ _ h => ⟨rfl, h⟩) fun r1 aw2 H => ?_
  refine lj 6 R7_1_N rfl rfl rfl (opv_not rfl rfl rfl) ?_
  refine aops_nil ?_
  refine ago_condE  (rfl : C7_5 = .cond (.tmp 6) C7_6 C7_9) rfl rfl (fun hb3 => ?_) (fun hb3 => ?_)
  · replace H := cnd_t H hb3
    refine ago_seqE (rfl : C7_6 = .seq C7_7 C7_8) ?_
    refine ago_regE (rfl : C7_7 = .region 2 R7_2 false) (l := [0]) rfl ?_
    refine lj 2 R7_2_N rfl rfl rfl (opv_assign rfl rfl rfl) ?_
    refine aops_nil ?_
    exact ago_retE (rfl : C7_8 = .ret) (r := false) (ares_1 rfl (oneT rfl)) rfl H
  replace H := cnd_f H hb3
  refine ago_skipE (rfl : C7_9 = .skip) ?_
  refine ago_seqE (rfl : C7_10 = .seq C7_11 C7_12) ?_
  refine ago_regE (rfl : C7_11 = .region 3 R7_3 false) (l := [0, 1, 2, 3, 4, 5, 6, 7, 8, 9, 10, 11, 12]) rfl ?_
  refine lj 8 R7_3_N rfl rfl rfl (ov_bld (r := [.int .u8 5, .int .i64 1, .int .i64 0, .string (⟨#[]⟩ : ByteArray)]) rfl rfl bo34 (mp_cons rfl (mp_cons rfl rfl)) (fillP rfl rfl rfl rfl (fillP rfl rfl rfl rfl (fillN rfl)))) ?_
  refine lj 9 R7_3_N rfl rfl rfl (opv_move rfl rfl h0) ?_
  refine lj 10 R7_3_N rfl rfl rfl (ov_bld (r := [.int .u8 0, .int .i64 n_0, .int .i64 0, .string (⟨#[]⟩ : ByteArray)]) rfl rfl bo34 (mp_cons rfl rfl) (fillP rfl rfl rfl rfl (fillN rfl))) ?_
  refine lj 11 R7_3_N rfl rfl rfl (ov_bld (r := [.int .u8 7, .int .i64 0, .int .i64 0, .string (⟨#[]⟩ : ByteArray)]) rfl rfl bo34 (mp_cons rfl rfl) (fillP rfl rfl rfl rfl (fillN rfl))) ?_
  refine lj 12 R7_3_N rfl rfl rfl (ov_bld (r := [.int .u8 8, .int .i64 0, .int .i64 0, .string (⟨#[]⟩ : ByteArray)]) rfl rfl bo34 (mp_cons rfl rfl) (fillP rfl rfl rfl rfl (fillN rfl))) ?_
  obtain ⟨p4, aw5, hp6, ha7, H⟩ := H
  refine lj 13 R7_3_N rfl rfl rfl (ov_bsA (r := [.int .u8 5, .int .i64 1, .int .i64 0, .string (⟨#[]⟩ : ByteArray), .int .u8 0, .int .i64 n_0, .int .i64 0, .string (⟨#[]⟩ : ByteArray), .int .u8 7, .int .i64 0, .int .i64 0, .string (⟨#[]⟩ : ByteArray), .int .u8 8, .int .i64 0, .int .i64 0, .string (⟨#[]⟩ : ByteArray)]) (vs := [.agg #[.int .u8 5, .int .i64 1, .int .i64 0, .string (⟨#[]⟩ : ByteArray)], .agg #[.int .u8 0, .int .i64 n_0, .int .i64 0, .string (⟨#[]⟩ : ByteArray)], .agg #[.int .u8 7, .int .i64 0, .int .i64 0, .string (⟨#[]⟩ : ByteArray)], .agg #[.int .u8 8, .int .i64 0, .int .i64 0, .string (⟨#[]⟩ : ByteArray)]]) rfl rfl underlying35 sz34 z34 rfl rfl rfl rfl rfl (mp_cons rfl (mp_cons rfl (mp_cons rfl (mp_cons rfl rfl)))) (.cons (v := .agg #[.int .u8 5, .int .i64 1, .int .i64 0, .string (⟨#[]⟩ : ByteArray)]) (xs := [.int .u8 5, .int .i64 1, .int .i64 0, .string (⟨#[]⟩ : ByteArray)]) (r := [.int .u8 0, .int .i64 n_0, .int .i64 0, .string (⟨#[]⟩ : ByteArray), .int .u8 7, .int .i64 0, .int .i64 0, .string (⟨#[]⟩ : ByteArray), .int .u8 8, .int .i64 0, .int .i64 0, .string (⟨#[]⟩ : ByteArray)]) rfl rfl (.cons (v := .agg #[.int .u8 0, .int .i64 n_0, .int .i64 0, .string (⟨#[]⟩ : ByteArray)]) (xs := [.int .u8 0, .int .i64 n_0, .int .i64 0, .string (⟨#[]⟩ : ByteArray)]) (r := [.int .u8 7, .int .i64 0, .int .i64 0, .string (⟨#[]⟩ : ByteArray), .int .u8 8, .int .i64 0, .int .i64 0, .string (⟨#[]⟩ : ByteArray)]) rfl rfl (.cons (v := .agg #[.int .u8 7, .int .i64 0, .int .i64 0, .string (⟨#[]⟩ : ByteArray)]) (xs := [.int .u8 7, .int .i64 0, .int .i64 0, .string (⟨#[]⟩ : ByteArray)]) (r := [.int .u8 8, .int .i64 0, .int .i64 0, .string (⟨#[]⟩ : ByteArray)]) rfl rfl (.cons (v := .agg #[.int .u8 8, .int .i64 0, .int .i64 0, .string (⟨#[]⟩ : ByteArray)]) (xs := [.int .u8 8, .int .i64 0, .int .i64 0, .string (⟨#[]⟩ : ByteArray)]) (r := []) rfl rfl .nil)))) hp6 ha7) ?_
  refine lc 14 R7_3_N rfl rfl rfl (opc_of rfl rfl is13 (ma_cons rfl (ma_cons rfl rfl))) H (fun _ _ h => ⟨rfl, h⟩) fun r8 aw9 H => ?_
  refine lj 7 R7_3_N rfl rfl rfl (opv_move rfl rfl rfl) ?_
  refine lj 15 R7_3_N rfl rfl rfl (opv_extract rfl rfl rfl rfl) ?_
  refine lj 16 R7_3_N rfl rfl rfl (opv_extract rfl rfl rfl rfl) ?_
  obtain ⟨p10, aw11, hp12, ha13, H⟩ := H
  refine lj 3 R7_3_N rfl rfl rfl (ov_alloc rfl z29 rfl rfl hp12 ha13) ?_
  obtain ⟨b15, i16, aw14, hp17, hw18, ho19, ha20, H⟩ := H
  refine lk (dt := none) R7_3_N rfl rfl rfl (ov_st rfl rfl rfl rfl rfl rfl sz29 hp17 hw18 ho19 ha20) ?_
  refine lj 4 R7_3_N rfl rfl rfl (opv_assign rfl rfl rfl) ?_
  refine aops_nil ?_
  refine ago_seqE (rfl : C7_12 = .seq C7_13 C7_14) ?_
  refine ago_cut (fun ρ => ρ 0 = .int .i64 n_0 ∧ ρ 3 = p10 ∧ ρ 4 = r8.2.2.2.2.2.2 ∧ True) ⟨h0, rfl, rfl, trivial⟩ (fun ρ ⟨h0, h3, h4, _⟩ => ?_)
  obtain ⟨q21, hf22, hq23, H⟩ := H
  rcases Bool.eq_false_or_eq_true (!q21) with hb24 | hb24
  · replace H := cnd_t H hb24
    obtain ⟨b26, i27, p25, hp28, hv29, H⟩ := H
    obtain ⟨b30, i31, x33, hp32, hg34, H⟩ := H
    rcases Bool.eq_false_or_eq_true (decide (x33 = 0)) with hb35 | hb35
    · replace H := cnd_t H hb35
      obtain ⟨b37, i38, p36, hp39, hv40, H⟩ := H
      obtain ⟨b41, i42, x44, hp43, hg45, H⟩ := H
      refine ago_drawH (p := [0, 1, 2, 3, 4, 5, 6, 7, 8, 10, 11, 13]) (tl := [(9, [10, 11, 13], []), (12, [13], []), (14, [], []), (15, [], [16, 17, 18, 19, 20, 21, 22, 23])]) (hv := [(0, r8.2.2.2.2.2.2), (1, Value.bool (!q21)), (2, Value.bool (!q21)), (3, p25), (4, Value.int .i64 x33), (5, Value.bool (decide (x33 = 0))), (6, Value.bool (decide (x33 = 0))), (7, Value.bool (decide (x33 = 0))), (8, r8.2.2.2.2.2.2), (10, p36), (11, Value.int .u64 x44), (13, Value.int .i64 n_0)]) (rfl : C7_13 = .region 4 R7_4 true) mixed R7_4_N R7_4_O rfl (pv_cons rfl (pv_cons rfl (pv_cons rfl (pv_cons rfl (pv_cons rfl (pv_cons rfl (pv_cons rfl (pv_cons rfl (pv_cons rfl (pv_cons rfl (pv_cons rfl (pv_cons rfl (pv_nil _)))))))))))))
        (fc 17 r8.2.2.2.2.2.2 (hd_v rfl fun ρ hρ => ⟨rfl, opv_move rfl rfl ((hρ 4 (lmem rfl)).trans h4)⟩) rfl rfl
        (fc 18 (.bool (!q21)) (hd_v rfl fun ρ hρ => ⟨rfl, ov_neNil rfl rfl underlying30 ((hρ 17 (lmem rfl)).trans rfl) hf22 hq23⟩) rfl rfl
        (fc 19 (.bool (!q21)) (hd_v rfl fun ρ hρ => ⟨rfl, opv_move rfl rfl ((hρ 18 (lmem rfl)).trans rfl)⟩) rfl rfl
        (fc 20 p25 (hd_v rfl fun ρ hρ => ⟨⟨_, rfl, .inl ⟨_, ((hρ 19 (lmem rfl)).trans rfl), gq hb24 rfl⟩⟩, ov_fldA rfl rfl underlying29 rfl sz24 (by decide) ((hρ 3 (lmem rfl)).trans h3) hp28 rfl hv29⟩) rfl rfl
        (fc 21 (.int .i64 x33) (hd_v rfl fun ρ hρ => ⟨⟨_, rfl, .inl ⟨_, ((hρ 19 (lmem rfl)).trans rfl), gq hb24 rfl⟩⟩, ov_ldI rfl underlying24 rfl ((hρ 20 (lmem rfl)).trans rfl) hp32 hg34⟩) rfl rfl
        (fc 22 (.bool (decide (x33 = 0))) (hd_v rfl fun ρ hρ => ⟨⟨_, rfl, .inl ⟨_, ((hρ 19 (lmem rfl)).trans rfl), gq hb24 rfl⟩⟩, opv_eqI rfl rfl rfl ((hρ 21 (lmem rfl)).trans rfl) rfl⟩) rfl rfl
        (fc 23 (.bool (decide (x33 = 0))) (hd_v rfl fun ρ hρ => ⟨rfl, ov_pickT rfl rfl rfl rfl ((hρ 19 (lmem rfl)).trans rfl) hb24 ((hρ 22 (lmem rfl)).trans rfl)⟩) rfl rfl
        (fc 24 (.bool (decide (x33 = 0))) (hd_v rfl fun ρ hρ => ⟨rfl, opv_move rfl rfl ((hρ 23 (lmem rfl)).trans rfl)⟩) rfl rfl
        (fc 25 r8.2.2.2.2.2.2 (hd_v rfl fun ρ hρ => ⟨⟨_, rfl, .inl ⟨_, ((hρ 24 (lmem rfl)).trans rfl), gq hb35 rfl⟩⟩, opv_move rfl rfl ((hρ 4 (lmem rfl)).trans h4)⟩) rfl rfl
        (fc 27 p36 (hd_v rfl fun ρ hρ => ⟨⟨_, rfl, .inl ⟨_, ((hρ 24 (lmem rfl)).trans rfl), gq hb35 rfl⟩⟩, ov_fldA rfl rfl underlying29 rfl sz26 (by decide) ((hρ 3 (lmem rfl)).trans h3) hp39 rfl hv40⟩) rfl rfl
        (fc 28 (.int .u64 x44) (hd_v rfl fun ρ hρ => ⟨⟨_, rfl, .inl ⟨_, ((hρ 24 (lmem rfl)).trans rfl), gq hb35 rfl⟩⟩, ov_ldI rfl underlying26 rfl ((hρ 27 (lmem rfl)).trans rfl) hp43 hg45⟩) rfl rfl
        (fc 30 (.int .i64 n_0) (hd_v rfl fun ρ hρ => ⟨⟨_, rfl, .inl ⟨_, ((hρ 24 (lmem rfl)).trans rfl), gq hb35 rfl⟩⟩, opv_move rfl rfl ((hρ 0 (lmem rfl)).trans h0)⟩) rfl rfl
        ffn)))))))))))) ?_
      refine lt_call (dt := some 26) rfl rfl (fun ρ hρ => ⟨⟨_, rfl, .inl ⟨_, ((hρ 24 (lmem rfl)).trans rfl), gq hb35 rfl⟩⟩, opc_of rfl rfl is18 (ma_cons ((hρ 25 (lmem rfl)).trans rfl) rfl)⟩) H (fun _ _ h _ => ⟨rfl, h⟩) fun r46 aw47 H => ?_
      obtain ⟨hg45, H⟩ := H
      replace hg45 := hg45 _ _ hp43
      refine lt_next (l := [10, 11, 13]) (hv := []) rfl rfl (pv_nil _)
        (fc 27 p36 (hd_v rfl fun ρ hρ => ⟨⟨_, rfl, .inl ⟨_, ((hρ 24 (lmem rfl)).trans rfl), gq hb35 rfl⟩⟩, ov_fldA rfl rfl underlying29 rfl sz26 (by decide) ((hρ 3 (lmem rfl)).trans h3) hp39 rfl hv40⟩) rfl rfl
        (fc 28 (.int .u64 x44) (hd_v rfl fun ρ hρ => ⟨⟨_, rfl, .inl ⟨_, ((hρ 24 (lmem rfl)).trans rfl), gq hb35 rfl⟩⟩, ov_ldI rfl underlying26 rfl ((hρ 27 (lmem rfl)).trans rfl) hp43 hg45⟩) rfl rfl
        (fc 30 (.int .i64 n_0) (hd_v rfl fun ρ hρ => ⟨⟨_, rfl, .inl ⟨_, ((hρ 24 (lmem rfl)).trans rfl), gq hb35 rfl⟩⟩, opv_move rfl rfl ((hρ 0 (lmem rfl)).trans h0)⟩) rfl rfl
        ffn))) ?_
      refine lt_call (dt := some 29) rfl rfl (fun ρ hρ => ⟨⟨_, rfl, .inl ⟨_, ((hρ 24 (lmem rfl)).trans rfl), gq hb35 rfl⟩⟩, opc_of rfl rfl is19 (ma_cons ((hρ 26 (lmem rfl)).trans rfl) (ma_cons ((hρ 28 (lmem rfl)).trans rfl) rfl))⟩) H (fun _ _ h _ => ⟨rfl, h⟩) fun r48 aw49 H => ?_
      refine lt_next (l := [13]) (hv := []) rfl rfl (pv_nil _)
        (fc 30 (.int .i64 n_0) (hd_v rfl fun ρ hρ => ⟨⟨_, rfl, .inl ⟨_, ((hρ 24 (lmem rfl)).trans rfl), gq hb35 rfl⟩⟩, opv_move rfl rfl ((hρ 0 (lmem rfl)).trans h0)⟩) rfl rfl
        ffn) ?_
      refine lt_call (dt := some 31) rfl rfl (fun ρ hρ => ⟨⟨_, rfl, .inl ⟨_, ((hρ 24 (lmem rfl)).trans rfl), gq hb35 rfl⟩⟩, opc_of rfl rfl is12 (ma_cons ((hρ 30 (lmem rfl)).trans rfl) rfl)⟩) H (fun _ _ h _ => ⟨rfl, h⟩) fun r50 aw51 H => ?_
      refine lt_next (l := []) (hv := []) rfl rfl (pv_nil _)
        ffn ?_
      refine lt_call (dt := some 32) rfl rfl (fun ρ hρ => ⟨⟨_, rfl, .inl ⟨_, ((hρ 24 (lmem rfl)).trans rfl), gq hb35 rfl⟩⟩, opc_of rfl rfl is20 (ma_cons ((hρ 31 (lmem rfl)).trans rfl) rfl)⟩) H (fun _ _ h _ => ⟨rfl, h⟩) fun r52 aw53 H => ?_
      rcases Bool.eq_false_or_eq_true (decide (r48 = r52)) with hb54 | hb54
      · replace H := cnd_t H hb54
        obtain ⟨b56, i57, p55, hp58, hv59, H⟩ := H
        obtain ⟨b60, i61, x63, hp62, hg64, H⟩ := H
        refine lt_next (l := [16, 17, 18, 19, 20, 21, 22, 23]) (hv := [(16, Value.bool (decide (r48 = r52))), (17, Value.bool (decide (r48 = r52))), (18, Value.bool (decide (r48 = r52))), (19, p55), (20, Value.int .i64 x63), (21, Value.bool (decide (x63 = 0))), (22, Value.bool (decide (x63 = 0))), (23, Value.bool (decide (x63 = 0)))]) rfl rfl (pv_cons rfl (pv_cons rfl (pv_cons rfl (pv_cons rfl (pv_cons rfl (pv_cons rfl (pv_cons rfl (pv_cons rfl (pv_nil _)))))))))
          (fc 33 (.bool (decide (r48 = r52))) (hd_v rfl fun ρ hρ => ⟨⟨_, rfl, .inl ⟨_, ((hρ 24 (lmem rfl)).trans rfl), gq hb35 rfl⟩⟩, opv_eqS rfl rfl rfl ((hρ 29 (lmem rfl)).trans rfl) ((hρ 32 (lmem rfl)).trans rfl)⟩) rfl rfl
          (fc 34 (.bool (decide (r48 = r52))) (hd_v rfl fun ρ hρ => ⟨rfl, ov_pickT rfl rfl rfl rfl ((hρ 24 (lmem rfl)).trans rfl) hb35 ((hρ 33 (lmem rfl)).trans rfl)⟩) rfl rfl
          (fc 35 (.bool (decide (r48 = r52))) (hd_v rfl fun ρ hρ => ⟨rfl, opv_move rfl rfl ((hρ 34 (lmem rfl)).trans rfl)⟩) rfl rfl
          (fc 36 p55 (hd_v rfl fun ρ hρ => ⟨⟨_, rfl, .inl ⟨_, ((hρ 35 (lmem rfl)).trans rfl), gq hb54 rfl⟩⟩, ov_fldA rfl rfl underlying29 rfl sz3 (by decide) ((hρ 3 (lmem rfl)).trans h3) hp58 rfl hv59⟩) rfl rfl
          (fc 37 (.int .i64 x63) (hd_v rfl fun ρ hρ => ⟨⟨_, rfl, .inl ⟨_, ((hρ 35 (lmem rfl)).trans rfl), gq hb54 rfl⟩⟩, ov_ldI rfl underlying3 rfl ((hρ 36 (lmem rfl)).trans rfl) hp62 hg64⟩) rfl rfl
          (fc 38 (.bool (decide (x63 = 0))) (hd_v rfl fun ρ hρ => ⟨⟨_, rfl, .inl ⟨_, ((hρ 35 (lmem rfl)).trans rfl), gq hb54 rfl⟩⟩, opv_eqI rfl rfl rfl ((hρ 37 (lmem rfl)).trans rfl) rfl⟩) rfl rfl
          (fc 39 (.bool (decide (x63 = 0))) (hd_v rfl fun ρ hρ => ⟨rfl, ov_pickT rfl rfl rfl rfl ((hρ 35 (lmem rfl)).trans rfl) hb54 ((hρ 38 (lmem rfl)).trans rfl)⟩) rfl rfl
          (fc 2 (.bool (decide (x63 = 0))) (hd_v rfl fun ρ hρ => ⟨rfl, opv_assign rfl rfl ((hρ 39 (lmem rfl)).trans rfl)⟩) rfl rfl
          ffn)))))))) ?_
        refine lt_end ?_
        exact ago_retE (rfl : C7_14 = .ret) (r := (decide (x63 = 0))) (ares_1 rfl (oneT rfl)) rfl H
      · replace H := cnd_f H hb54
        refine lt_next (l := [16, 17, 18, 19, 20, 21, 22, 23]) (hv := [(16, Value.bool (decide (r48 = r52))), (17, Value.bool (decide (r48 = r52))), (18, Value.bool (decide (r48 = r52))), (19, undef), (20, undef), (21, undef), (22, Value.bool false), (23, Value.bool false)]) rfl rfl (pv_cons rfl (pv_cons rfl (pv_cons rfl (pv_cons rfl (pv_cons rfl (pv_cons rfl (pv_cons rfl (pv_cons rfl (pv_nil _)))))))))
          (fc 33 (.bool (decide (r48 = r52))) (hd_v rfl fun ρ hρ => ⟨⟨_, rfl, .inl ⟨_, ((hρ 24 (lmem rfl)).trans rfl), gq hb35 rfl⟩⟩, opv_eqS rfl rfl rfl ((hρ 29 (lmem rfl)).trans rfl) ((hρ 32 (lmem rfl)).trans rfl)⟩) rfl rfl
          (fc 34 (.bool (decide (r48 = r52))) (hd_v rfl fun ρ hρ => ⟨rfl, ov_pickT rfl rfl rfl rfl ((hρ 24 (lmem rfl)).trans rfl) hb35 ((hρ 33 (lmem rfl)).trans rfl)⟩) rfl rfl
          (fc 35 (.bool (decide (r48 = r52))) (hd_v rfl fun ρ hρ => ⟨rfl, opv_move rfl rfl ((hρ 34 (lmem rfl)).trans rfl)⟩) rfl rfl
          (fc 36 undef (hd_s rfl (fun ρ hρ => ⟨_, rfl, .inl ⟨_, ((hρ 35 (lmem rfl)).trans rfl), gq hb54 rfl⟩⟩) rfl) rfl rfl
          (fc 37 undef (hd_s rfl (fun ρ hρ => ⟨_, rfl, .inl ⟨_, ((hρ 35 (lmem rfl)).trans rfl), gq hb54 rfl⟩⟩) rfl) rfl rfl
          (fc 38 undef (hd_s rfl (fun ρ hρ => ⟨_, rfl, .inl ⟨_, ((hρ 35 (lmem rfl)).trans rfl), gq hb54 rfl⟩⟩) rfl) rfl rfl
          (fc 39 (.bool false) (hd_v rfl fun ρ hρ => ⟨rfl, ov_pickF rfl rfl rfl rfl ((hρ 35 (lmem rfl)).trans rfl) hb54 rfl⟩) rfl rfl
          (fc 2 (.bool false) (hd_v rfl fun ρ hρ => ⟨rfl, opv_assign rfl rfl ((hρ 39 (lmem rfl)).trans rfl)⟩) rfl rfl
          ffn)))))))) ?_
        refine lt_end ?_
        exact ago_retE (rfl : C7_14 = .ret) (r := false) (ares_1 rfl (oneT rfl)) rfl H
    · replace H := cnd_f H hb35
      refine ago_drawH (p := [0, 1, 2, 3, 4, 5, 6, 7, 8, 10, 11, 13]) (tl := [(9, [10, 11, 13], []), (12, [13], []), (14, [], []), (15, [], [16, 17, 18, 19, 20, 21, 22, 23])]) (hv := [(0, r8.2.2.2.2.2.2), (1, Value.bool (!q21)), (2, Value.bool (!q21)), (3, p25), (4, Value.int .i64 x33), (5, Value.bool (decide (x33 = 0))), (6, Value.bool (decide (x33 = 0))), (7, Value.bool (decide (x33 = 0))), (8, undef), (10, undef), (11, undef), (13, undef)]) (rfl : C7_13 = .region 4 R7_4 true) mixed R7_4_N R7_4_O rfl (pv_cons rfl (pv_cons rfl (pv_cons rfl (pv_cons rfl (pv_cons rfl (pv_cons rfl (pv_cons rfl (pv_cons rfl (pv_cons rfl (pv_cons rfl (pv_cons rfl (pv_cons rfl (pv_nil _)))))))))))))
        (fc 17 r8.2.2.2.2.2.2 (hd_v rfl fun ρ hρ => ⟨rfl, opv_move rfl rfl ((hρ 4 (lmem rfl)).trans h4)⟩) rfl rfl
        (fc 18 (.bool (!q21)) (hd_v rfl fun ρ hρ => ⟨rfl, ov_neNil rfl rfl underlying30 ((hρ 17 (lmem rfl)).trans rfl) hf22 hq23⟩) rfl rfl
        (fc 19 (.bool (!q21)) (hd_v rfl fun ρ hρ => ⟨rfl, opv_move rfl rfl ((hρ 18 (lmem rfl)).trans rfl)⟩) rfl rfl
        (fc 20 p25 (hd_v rfl fun ρ hρ => ⟨⟨_, rfl, .inl ⟨_, ((hρ 19 (lmem rfl)).trans rfl), gq hb24 rfl⟩⟩, ov_fldA rfl rfl underlying29 rfl sz24 (by decide) ((hρ 3 (lmem rfl)).trans h3) hp28 rfl hv29⟩) rfl rfl
        (fc 21 (.int .i64 x33) (hd_v rfl fun ρ hρ => ⟨⟨_, rfl, .inl ⟨_, ((hρ 19 (lmem rfl)).trans rfl), gq hb24 rfl⟩⟩, ov_ldI rfl underlying24 rfl ((hρ 20 (lmem rfl)).trans rfl) hp32 hg34⟩) rfl rfl
        (fc 22 (.bool (decide (x33 = 0))) (hd_v rfl fun ρ hρ => ⟨⟨_, rfl, .inl ⟨_, ((hρ 19 (lmem rfl)).trans rfl), gq hb24 rfl⟩⟩, opv_eqI rfl rfl rfl ((hρ 21 (lmem rfl)).trans rfl) rfl⟩) rfl rfl
        (fc 23 (.bool (decide (x33 = 0))) (hd_v rfl fun ρ hρ => ⟨rfl, ov_pickT rfl rfl rfl rfl ((hρ 19 (lmem rfl)).trans rfl) hb24 ((hρ 22 (lmem rfl)).trans rfl)⟩) rfl rfl
        (fc 24 (.bool (decide (x33 = 0))) (hd_v rfl fun ρ hρ => ⟨rfl, opv_move rfl rfl ((hρ 23 (lmem rfl)).trans rfl)⟩) rfl rfl
        (fc 25 undef (hd_s rfl (fun ρ hρ => ⟨_, rfl, .inl ⟨_, ((hρ 24 (lmem rfl)).trans rfl), gq hb35 rfl⟩⟩) rfl) rfl rfl
        (fc 27 undef (hd_s rfl (fun ρ hρ => ⟨_, rfl, .inl ⟨_, ((hρ 24 (lmem rfl)).trans rfl), gq hb35 rfl⟩⟩) rfl) rfl rfl
        (fc 28 undef (hd_s rfl (fun ρ hρ => ⟨_, rfl, .inl ⟨_, ((hρ 24 (lmem rfl)).trans rfl), gq hb35 rfl⟩⟩) rfl) rfl rfl
        (fc 30 undef (hd_s rfl (fun ρ hρ => ⟨_, rfl, .inl ⟨_, ((hρ 24 (lmem rfl)).trans rfl), gq hb35 rfl⟩⟩) rfl) rfl rfl
        ffn)))))))))))) ?_
      refine lt_skip (dt := some 26) rfl rfl (fun ρ hρ => ⟨_, rfl, .inl ⟨_, ((hρ 24 (lmem rfl)).trans rfl), gq hb35 rfl⟩⟩) ?_
      refine lt_next (l := [10, 11, 13]) (hv := []) rfl rfl (pv_nil _)
        (fc 27 undef (hd_s rfl (fun ρ hρ => ⟨_, rfl, .inl ⟨_, ((hρ 24 (lmem rfl)).trans rfl), gq hb35 rfl⟩⟩) rfl) rfl rfl
        (fc 28 undef (hd_s rfl (fun ρ hρ => ⟨_, rfl, .inl ⟨_, ((hρ 24 (lmem rfl)).trans rfl), gq hb35 rfl⟩⟩) rfl) rfl rfl
        (fc 30 undef (hd_s rfl (fun ρ hρ => ⟨_, rfl, .inl ⟨_, ((hρ 24 (lmem rfl)).trans rfl), gq hb35 rfl⟩⟩) rfl) rfl rfl
        ffn))) ?_
      refine lt_skip (dt := some 29) rfl rfl (fun ρ hρ => ⟨_, rfl, .inl ⟨_, ((hρ 24 (lmem rfl)).trans rfl), gq hb35 rfl⟩⟩) ?_
      refine lt_next (l := [13]) (hv := []) rfl rfl (pv_nil _)
        (fc 30 undef (hd_s rfl (fun ρ hρ => ⟨_, rfl, .inl ⟨_, ((hρ 24 (lmem rfl)).trans rfl), gq hb35 rfl⟩⟩) rfl) rfl rfl
        ffn) ?_
      refine lt_skip (dt := some 31) rfl rfl (fun ρ hρ => ⟨_, rfl, .inl ⟨_, ((hρ 24 (lmem rfl)).trans rfl), gq hb35 rfl⟩⟩) ?_
      refine lt_next (l := []) (hv := []) rfl rfl (pv_nil _)
        ffn ?_
      refine lt_skip (dt := some 32) rfl rfl (fun ρ hρ => ⟨_, rfl, .inl ⟨_, ((hρ 24 (lmem rfl)).trans rfl), gq hb35 rfl⟩⟩) ?_
      refine lt_next (l := [16, 17, 18, 19, 20, 21, 22, 23]) (hv := [(16, undef), (17, Value.bool false), (18, Value.bool false), (19, undef), (20, undef), (21, undef), (22, Value.bool false), (23, Value.bool false)]) rfl rfl (pv_cons rfl (pv_cons rfl (pv_cons rfl (pv_cons rfl (pv_cons rfl (pv_cons rfl (pv_cons rfl (pv_cons rfl (pv_nil _)))))))))
        (fc 33 undef (hd_s rfl (fun ρ hρ => ⟨_, rfl, .inl ⟨_, ((hρ 24 (lmem rfl)).trans rfl), gq hb35 rfl⟩⟩) rfl) rfl rfl
        (fc 34 (.bool false) (hd_v rfl fun ρ hρ => ⟨rfl, ov_pickF rfl rfl rfl rfl ((hρ 24 (lmem rfl)).trans rfl) hb35 rfl⟩) rfl rfl
        (fc 35 (.bool false) (hd_v rfl fun ρ hρ => ⟨rfl, opv_move rfl rfl ((hρ 34 (lmem rfl)).trans rfl)⟩) rfl rfl
        (fc 36 undef (hd_s rfl (fun ρ hρ => ⟨_, rfl, .inl ⟨_, ((hρ 35 (lmem rfl)).trans rfl), gq rfl rfl⟩⟩) rfl) rfl rfl
        (fc 37 undef (hd_s rfl (fun ρ hρ => ⟨_, rfl, .inl ⟨_, ((hρ 35 (lmem rfl)).trans rfl), gq rfl rfl⟩⟩) rfl) rfl rfl
        (fc 38 undef (hd_s rfl (fun ρ hρ => ⟨_, rfl, .inl ⟨_, ((hρ 35 (lmem rfl)).trans rfl), gq rfl rfl⟩⟩) rfl) rfl rfl
        (fc 39 (.bool false) (hd_v rfl fun ρ hρ => ⟨rfl, ov_pickF rfl rfl rfl rfl ((hρ 35 (lmem rfl)).trans rfl) rfl rfl⟩) rfl rfl
        (fc 2 (.bool false) (hd_v rfl fun ρ hρ => ⟨rfl, opv_assign rfl rfl ((hρ 39 (lmem rfl)).trans rfl)⟩) rfl rfl
        ffn)))))))) ?_
      refine lt_end ?_
      exact ago_retE (rfl : C7_14 = .ret) (r := false) (ares_1 rfl (oneT rfl)) rfl H
  · replace H := cnd_f H hb24
    refine ago_drawH (p := [0, 1, 2, 3, 4, 5, 6, 7, 8, 10, 11, 13]) (tl := [(9, [10, 11, 13], []), (12, [13], []), (14, [], []), (15, [], [16, 17, 18, 19, 20, 21, 22, 23])]) (hv := [(0, r8.2.2.2.2.2.2), (1, Value.bool (!q21)), (2, Value.bool (!q21)), (3, undef), (4, undef), (5, undef), (6, Value.bool false), (7, Value.bool false), (8, undef), (10, undef), (11, undef), (13, undef)]) (rfl : C7_13 = .region 4 R7_4 true) mixed R7_4_N R7_4_O rfl (pv_cons rfl (pv_cons rfl (pv_cons rfl (pv_cons rfl (pv_cons rfl (pv_cons rfl (pv_cons rfl (pv_cons rfl (pv_cons rfl (pv_cons rfl (pv_cons rfl (pv_cons rfl (pv_nil _)))))))))))))
      (fc 17 r8.2.2.2.2.2.2 (hd_v rfl fun ρ hρ => ⟨rfl, opv_move rfl rfl ((hρ 4 (lmem rfl)).trans h4)⟩) rfl rfl
      (fc 18 (.bool (!q21)) (hd_v rfl fun ρ hρ => ⟨rfl, ov_neNil rfl rfl underlying30 ((hρ 17 (lmem rfl)).trans rfl) hf22 hq23⟩) rfl rfl
      (fc 19 (.bool (!q21)) (hd_v rfl fun ρ hρ => ⟨rfl, opv_move rfl rfl ((hρ 18 (lmem rfl)).trans rfl)⟩) rfl rfl
      (fc 20 undef (hd_s rfl (fun ρ hρ => ⟨_, rfl, .inl ⟨_, ((hρ 19 (lmem rfl)).trans rfl), gq hb24 rfl⟩⟩) rfl) rfl rfl
      (fc 21 undef (hd_s rfl (fun ρ hρ => ⟨_, rfl, .inl ⟨_, ((hρ 19 (lmem rfl)).trans rfl), gq hb24 rfl⟩⟩) rfl) rfl rfl
      (fc 22 undef (hd_s rfl (fun ρ hρ => ⟨_, rfl, .inl ⟨_, ((hρ 19 (lmem rfl)).trans rfl), gq hb24 rfl⟩⟩) rfl) rfl rfl
      (fc 23 (.bool false) (hd_v rfl fun ρ hρ => ⟨rfl, ov_pickF rfl rfl rfl rfl ((hρ 19 (lmem rfl)).trans rfl) hb24 rfl⟩) rfl rfl
      (fc 24 (.bool false) (hd_v rfl fun ρ hρ => ⟨rfl, opv_move rfl rfl ((hρ 23 (lmem rfl)).trans rfl)⟩) rfl rfl
      (fc 25 undef (hd_s rfl (fun ρ hρ => ⟨_, rfl, .inl ⟨_, ((hρ 24 (lmem rfl)).trans rfl), gq rfl rfl⟩⟩) rfl) rfl rfl
      (fc 27 undef (hd_s rfl (fun ρ hρ => ⟨_, rfl, .inl ⟨_, ((hρ 24 (lmem rfl)).trans rfl), gq rfl rfl⟩⟩) rfl) rfl rfl
      (fc 28 undef (hd_s rfl (fun ρ hρ => ⟨_, rfl, .inl ⟨_, ((hρ 24 (lmem rfl)).trans rfl), gq rfl rfl⟩⟩) rfl) rfl rfl
      (fc 30 undef (hd_s rfl (fun ρ hρ => ⟨_, rfl, .inl ⟨_, ((hρ 24 (lmem rfl)).trans rfl), gq rfl rfl⟩⟩) rfl) rfl rfl
      ffn)))))))))))) ?_
    refine lt_skip (dt := some 26) rfl rfl (fun ρ hρ => ⟨_, rfl, .inl ⟨_, ((hρ 24 (lmem rfl)).trans rfl), gq rfl rfl⟩⟩) ?_
    refine lt_next (l := [10, 11, 13]) (hv := []) rfl rfl (pv_nil _)
      (fc 27 undef (hd_s rfl (fun ρ hρ => ⟨_, rfl, .inl ⟨_, ((hρ 24 (lmem rfl)).trans rfl), gq rfl rfl⟩⟩) rfl) rfl rfl
      (fc 28 undef (hd_s rfl (fun ρ hρ => ⟨_, rfl, .inl ⟨_, ((hρ 24 (lmem rfl)).trans rfl), gq rfl rfl⟩⟩) rfl) rfl rfl
      (fc 30 undef (hd_s rfl (fun ρ hρ => ⟨_, rfl, .inl ⟨_, ((hρ 24 (lmem rfl)).trans rfl), gq rfl rfl⟩⟩) rfl) rfl rfl
      ffn))) ?_
    refine lt_skip (dt := some 29) rfl rfl (fun ρ hρ => ⟨_, rfl, .inl ⟨_, ((hρ 24 (lmem rfl)).trans rfl), gq rfl rfl⟩⟩) ?_
    refine lt_next (l := [13]) (hv := []) rfl rfl (pv_nil _)
      (fc 30 undef (hd_s rfl (fun ρ hρ => ⟨_, rfl, .inl ⟨_, ((hρ 24 (lmem rfl)).trans rfl), gq rfl rfl⟩⟩) rfl) rfl rfl
      ffn) ?_
    refine lt_skip (dt := some 31) rfl rfl (fun ρ hρ => ⟨_, rfl, .inl ⟨_, ((hρ 24 (lmem rfl)).trans rfl), gq rfl rfl⟩⟩) ?_
    refine lt_next (l := []) (hv := []) rfl rfl (pv_nil _)
      ffn ?_
    refine lt_skip (dt := some 32) rfl rfl (fun ρ hρ => ⟨_, rfl, .inl ⟨_, ((hρ 24 (lmem rfl)).trans rfl), gq rfl rfl⟩⟩) ?_
    refine lt_next (l := [16, 17, 18, 19, 20, 21, 22, 23]) (hv := [(16, undef), (17, Value.bool false), (18, Value.bool false), (19, undef), (20, undef), (21, undef), (22, Value.bool false), (23, Value.bool false)]) rfl rfl (pv_cons rfl (pv_cons rfl (pv_cons rfl (pv_cons rfl (pv_cons rfl (pv_cons rfl (pv_cons rfl (pv_cons rfl (pv_nil _)))))))))
      (fc 33 undef (hd_s rfl (fun ρ hρ => ⟨_, rfl, .inl ⟨_, ((hρ 24 (lmem rfl)).trans rfl), gq rfl rfl⟩⟩) rfl) rfl rfl
      (fc 34 (.bool false) (hd_v rfl fun ρ hρ => ⟨rfl, ov_pickF rfl rfl rfl rfl ((hρ 24 (lmem rfl)).trans rfl) rfl rfl⟩) rfl rfl
      (fc 35 (.bool false) (hd_v rfl fun ρ hρ => ⟨rfl, opv_move rfl rfl ((hρ 34 (lmem rfl)).trans rfl)⟩) rfl rfl
      (fc 36 undef (hd_s rfl (fun ρ hρ => ⟨_, rfl, .inl ⟨_, ((hρ 35 (lmem rfl)).trans rfl), gq rfl rfl⟩⟩) rfl) rfl rfl
      (fc 37 undef (hd_s rfl (fun ρ hρ => ⟨_, rfl, .inl ⟨_, ((hρ 35 (lmem rfl)).trans rfl), gq rfl rfl⟩⟩) rfl) rfl rfl
      (fc 38 undef (hd_s rfl (fun ρ hρ => ⟨_, rfl, .inl ⟨_, ((hρ 35 (lmem rfl)).trans rfl), gq rfl rfl⟩⟩) rfl) rfl rfl
      (fc 39 (.bool false) (hd_v rfl fun ρ hρ => ⟨rfl, ov_pickF rfl rfl rfl rfl ((hρ 35 (lmem rfl)).trans rfl) rfl rfl⟩) rfl rfl
      (fc 2 (.bool false) (hd_v rfl fun ρ hρ => ⟨rfl, opv_assign rfl rfl ((hρ 39 (lmem rfl)).trans rfl)⟩) rfl rfl
      ffn)))))))) ?_
    refine lt_end ?_
    exact ago_retE (rfl : C7_14 = .ret) (r := false) (ares_1 rfl (oneT rfl)) rfl H
theorem F7_ok {Q : Bool → AW → Prop} {E : List PanicEntry → AW → Prop} (n_0 : Int) (aw : AW) (H : S7_0 Q E n_0 aw) : CallP prog 7 [.int .i64 n_0] aw sh7 Q E :=
  callP_of func7 C7_is rfl (Nat.le_of_ble_eq_true rfl) (S7_0_ok Q E _ n_0 aw rfl H)
def C12_0 := bodyOf f12
theorem C12_is : f12.body = some C12_0 := by kernel_rfl
def C12_1 := cl C12_0
def R12_0 := regOps C12_1
def C12_2 := cr C12_0
def C12_3 := cl C12_2
def R12_1 := regOps C12_3
def C12_4 := cr C12_2
theorem R12_0_N : dstsOk 6 R12_0 = true := by decide +kernel
theorem R12_1_N : dstsOk 6 R12_1 = true := by decide +kernel
def S12_0 (Q : Int → AW → Prop) (E : List PanicEntry → AW → Prop)  (n_0 : Int) (aw : AW) : Prop :=
  Q (Int.fdiv (IntKind.i64.wrap (n_0 * 2 ^ (min (1 : Int).toNat IntKind.i64.bits))) (2 ^ (min (1 : Int).toNat IntKind.i64.bits))) aw
theorem S12_0_ok (Q : Int → AW → Prop) (E : List PanicEntry → AW → Prop)  (ρ : Env) (n_0 : Int) (aw : AW) (h0 : ρ 0 = .int .i64 n_0) (H : S12_0 Q E  n_0 aw) :
    AGo prog 6 [.code C12_0] ρ [] aw (RR prog f12 6 sh12 Q E) := by
  unfold S12_0 at H
  refine ago_seqE (rfl : C12_0 = .seq C12_1 C12_2) ?_
  refine ago_regE (rfl : C12_1 = .region 0 R12_0 false) (l := [0]) rfl ?_
  refine lj 2 R12_0_N rfl rfl rfl (opv_assign rfl rfl rfl) ?_
  refine aops_nil ?_
  refine ago_seqE (rfl : C12_2 = .seq C12_3 C12_4) ?_
  refine ago_regE (rfl : C12_3 = .region 1 R12_1 false) (l := [0, 1, 2, 3]) rfl ?_
  refine lj 3 R12_1_N rfl rfl rfl (opv_move rfl rfl h0) ?_
  refine lj 4 R12_1_N rfl rfl rfl (opv_shl rfl rfl rfl rfl rfl (by decide)) ?_
  refine lj 5 R12_1_N rfl rfl rfl (opv_shr rfl rfl rfl rfl rfl (by decide)) ?_
  refine lj 2 R12_1_N rfl rfl rfl (opv_assign rfl rfl rfl) ?_
  refine aops_nil ?_
  exact ago_retE (rfl : C12_4 = .ret) (r := (Int.fdiv (IntKind.i64.wrap (n_0 * 2 ^ (min (1 : Int).toNat IntKind.i64.bits))) (2 ^ (min (1 : Int).toNat IntKind.i64.bits)))) (ares_1 rfl (oneT rfl)) rfl H
theorem F12_ok {Q : Int → AW → Prop} {E : List PanicEntry → AW → Prop} (n_0 : Int) (aw : AW) (H : S12_0 Q E n_0 aw) : CallP prog 12 [.int .i64 n_0] aw sh12 Q E :=
  callP_of func12 C12_is rfl (Nat.le_of_ble_eq_true rfl) (S12_0_ok Q E _ n_0 aw rfl H)
def C13_0 := bodyOf f13
theorem C13_is : f13.body = some C13_0 := by kernel_rfl
def C13_1 := cl C13_0
def R13_0 := regOps C13_1
def C13_2 := cr C13_0
def C13_3 := cl C13_2
def R13_1 := regOps C13_3
def C13_4 := cr C13_2
def C13_5 := cl C13_4
def C13_6 := cl C13_5
def R13_2 := regOps C13_6
def C13_7 := cr C13_5
def C13_8 := cl C13_7
def C13_9 := cl C13_8
def R13_3 := regOps C13_9
def C13_10 := cr C13_8
def C13_11 := cr C13_7
def C13_12 := cr C13_4
def C13_13 := cl C13_12
def R13_4 := regOps C13_13
def C13_14 := cr C13_12
theorem R13_0_N : dstsOk 27 R13_0 = true := by decide +kernel
theorem R13_1_N : dstsOk 27 R13_1 = true := by decide +kernel
theorem R13_2_N : dstsOk 27 R13_2 = true := by decide +kernel
theorem R13_3_N : dstsOk 27 R13_3 = true := by decide +kernel
theorem R13_4_N : dstsOk 27 R13_4 = true := by decide +kernel
def S13_0 (Q : (Int × Int × ByteArray × ByteArray × Value × Int × Value) → AW → Prop) (E : List PanicEntry → AW → Prop)  (l_0 : Value) (fuel_1 : Int) (aw : AW) : Prop :=
  alc aw [.int .i64 0, .int .u64 0, .string (⟨#[]⟩ : ByteArray), .string (⟨#[]⟩ : ByteArray), (.slice none 0 0), .int .i64 0] 29 0 fun p1 aw2 =>
  CallP prog 15 [.int .i64 4000, .int .i64 8] aw2 sh15 (fun r5 aw6 =>
  cnd (!decide (r5.2 = 0)) (st aw6 p1 [.int .i64 3, .int .u64 0, .string (⟨#[]⟩ : ByteArray), .string (⟨#[]⟩ : ByteArray), (.slice none 0 0), .int .i64 0] fun aw9 =>
  ptr p1 fun b16 i17 => gI .i64 aw9 b16 i17 fun c19 => gI .u64 aw9 b16 (i17 + 1) fun c20 => gS aw9 b16 (i17 + 2) fun c21 => gS aw9 b16 (i17 + 3) fun c22 => gV aw9 b16 (i17 + 4) fun c23 => gI .i64 aw9 b16 (i17 + 5) fun c24 => Q (c19, c20, c21, c22, c23, c24, (.pointer none)) aw9) (one l_0 = true ∧ alcS aw6 [.int .i64 0, l_0] 43 2 1 fun p32 aw33 =>
  CallP prog 16 [r5.1, p32] aw33 sh16 (fun r36 aw37 =>
  cnd (!decide (r36 = 0)) (False) (CallP prog 17 [r5.1, .int .i64 0, .int .i64 fuel_1, .int .i64 10, .int .i64 50] aw37 sh17 (fun r39 aw40 =>
  st aw40 p1 [.int .i64 r39.1, .int .u64 r39.2.1, .string r39.2.2.1, .string r39.2.2.2.1, r39.2.2.2.2.1, .int .i64 r39.2.2.2.2.2] fun aw41 =>
  ptr p1 fun b48 i49 => gI .i64 aw41 b48 i49 fun c51 => gI .u64 aw41 b48 (i49 + 1) fun c52 => gS aw41 b48 (i49 + 2) fun c53 => gS aw41 b48 (i49 + 3) fun c54 => gV aw41 b48 (i49 + 4) fun c55 => gI .i64 aw41 b48 (i49 + 5) fun c56 => Q (c51, c52, c53, c54, c55, c56, r5.1) aw41) E)) E)) E
theorem S13_0_ok (Q : (Int × Int × ByteArray × ByteArray × Value × Int × Value) → AW → Prop) (E : List PanicEntry → AW → Prop)  (ρ : Env) (l_0 : Value) (fuel_1 : Int) (aw : AW) (h0 : ρ 0 = l_0) (h1 : ρ 1 = .int .i64 fuel_1) (H : S13_0 Q E  l_0 fuel_1 aw) :
    AGo prog 27 [.code C13_0] ρ [] aw (RR prog f13 27 sh13 Q E) := by
  unfold S13_0 at H
  refine ago_seqE (rfl : C13_0 = .seq C13_1 C13_2) ?_
  refine ago_regE (rfl : C13_1 = .region 0 R13_0 false) (l := [0, 1]) rfl ?_
  obtain ⟨p1, aw2, hp3, ha4, H⟩ := H
  refine lj 4 R13_0_N rfl rfl rfl (ov_alloc rfl z29 rfl rfl hp3 ha4) ?_
  refine lj 5 R13_0_N rfl rfl rfl (opv_assign rfl rfl rfl) ?_
  refine aops_nil ?_
  refine ago_seqE (rfl : C13_2 = .seq C13_3 C13_4) ?_
  refine ago_regE (rfl : C13_3 = .region 1 R13_1 false) (l := [0, 1, 2, 3, 4, 5]) rfl ?_
  refine lc 9 R13_1_N rfl rfl rfl (opc_of rfl rfl is15 (ma_cons rfl (ma_cons rfl rfl))) H (fun _ _ h => ⟨rfl, h⟩) fun r5 aw6 H => ?_
  refine lj 8 R13_1_N rfl rfl rfl (opv_move rfl rfl rfl) ?_
  refine lj 10 R13_1_N rfl rfl rfl (opv_extract rfl rfl rfl rfl) ?_
  refine lj 11 R13_1_N rfl rfl rfl (opv_extract rfl rfl rfl rfl) ?_
  refine lj 6 R13_1_N rfl rfl rfl (opv_assign rfl rfl rfl) ?_
  refine lj 7 R13_1_N rfl rfl rfl (opv_assign rfl rfl rfl) ?_
  refine aops_nil ?_
  refine ago_seqE (rfl : C13_4 = .seq C13_5 C13_12) ?_
  refine ago_seqE (rfl : C13_5 = .seq C13_6 C13_7) ?_
  refine ago_regE (rfl : C13_6 = .region 2 R13_2 false) (l := [0, 1, 2, 3, 4, 5, 6, 7, 8, 9]) rfl ?_
  refine lj 12 R13_2_N rfl rfl rfl (opv_move rfl rfl rfl) ?_
  refine lj 13 R13_2_N rfl rfl rfl (opv_neI rfl rfl rfl rfl rfl) ?_
  refine lj 14 R13_2_N rfl rfl rfl (opv_move rfl rfl rfl) ?_
  rcases Bool.eq_false_or_eq_true (!decide (r5.2 = 0)) with hb7 | hb7
  · replace H := cnd_t H hb7
    refine ls 15 R13_2_N rfl rfl ⟨_, rfl, .inl ⟨_, rfl, gq hb7 rfl⟩⟩ ?_
    refine ls 16 R13_2_N rfl rfl ⟨_, rfl, .inl ⟨_, rfl, gq hb7 rfl⟩⟩ ?_
    refine ls 17 R13_2_N rfl rfl ⟨_, rfl, .inl ⟨_, rfl, gq hb7 rfl⟩⟩ ?_
    refine ls 18 R13_2_N rfl rfl ⟨_, rfl, .inl ⟨_, rfl, gq hb7 rfl⟩⟩ ?_
    refine ls 19 R13_2_N rfl rfl ⟨_, rfl, .inl ⟨_, rfl, gq hb7 rfl⟩⟩ ?_
    refine ls 20 R13_2_N rfl rfl ⟨_, rfl, .inl ⟨_, rfl, gq hb7 rfl⟩⟩ ?_
    refine lj 21 R13_2_N rfl rfl rfl (ov_pickT rfl rfl rfl rfl rfl hb7 rfl) ?_
    refine aops_nil ?_
    refine ago_condE  (rfl : C13_7 = .cond (.tmp 21) C13_8 C13_11) rfl rfl (fun h => ?_) (fun h => tf h)
    refine ago_seqE (rfl : C13_8 = .seq C13_9 C13_10) ?_
    refine ago_cut (fun ρ => ρ 4 = p1 ∧ True) ⟨rfl, trivial⟩ (fun ρ ⟨h4, _⟩ => ?_)
    refine ago_regE (rfl : C13_9 = .region 3 R13_3 false) (l := [0, 1, 2]) rfl ?_
    refine lj 22 R13_3_N rfl rfl rfl (ov_bld (r := [.int .i64 3, .int .u64 0, .string (⟨#[]⟩ : ByteArray), .string (⟨#[]⟩ : ByteArray), (.slice none 0 0), .int .i64 0]) rfl rfl bo29 (mp_cons rfl rfl) (fillP rfl rfl rfl rfl (fillN rfl))) ?_
    obtain ⟨b10, i11, aw9, hp12, hw13, ho14, ha15, H⟩ := H
    refine lk (dt := none) R13_3_N rfl rfl rfl (ov_st rfl rfl rfl h4 rfl rfl sz29 hp12 hw13 ho14 ha15) ?_
    refine lj 5 R13_3_N rfl rfl rfl (opv_assign rfl rfl rfl) ?_
    refine aops_nil ?_
    obtain ⟨b16, i17, hp18, c19, hg25, c20, hg26, c21, hg27, c22, hg28, c23, hg29, c24, hg30, H⟩ := H
    exact ago_retE (rfl : C13_10 = .ret) (r := (c19, c20, c21, c22, c23, c24, (.pointer none))) (ares_2 rfl (oneN h4 hp18 underlying29 rfl sz29 (getN_cons hg25 (getN_cons hg26 (getN_cons hg27 (getN_cons hg28 (getN_cons hg29 (getN_cons hg30 getN_nil))))))) (oneT rfl)) rfl H
  · replace H := cnd_f H hb7
    refine lj 15 R13_2_N rfl rfl ⟨_, rfl, .inl ⟨_, rfl, gq hb7 rfl⟩⟩ (opv_move rfl rfl rfl) ?_
    refine lj 16 R13_2_N rfl rfl ⟨_, rfl, .inl ⟨_, rfl, gq hb7 rfl⟩⟩ (opv_move rfl rfl h0) ?_
    obtain ⟨h131, H⟩ := H
    refine lj 17 R13_2_N rfl rfl ⟨_, rfl, .inl ⟨_, rfl, gq hb7 rfl⟩⟩ (ov_bld (r := [.int .i64 0, l_0]) rfl rfl bo43 (mp_cons rfl rfl) (fillP (cells_one h131) rfl rfl rfl (fillN rfl))) ?_
    obtain ⟨p32, aw33, hp34, ha35, H⟩ := H
    refine lj 18 R13_2_N rfl rfl ⟨_, rfl, .inl ⟨_, rfl, gq hb7 rfl⟩⟩ (ov_bsA (r := [.int .i64 0, l_0]) (vs := [.agg #[.int .i64 0, l_0]]) rfl rfl underlying44 sz43 z43 rfl rfl rfl rfl rfl (mp_cons rfl rfl) (.cons (v := .agg #[.int .i64 0, l_0]) (xs := [.int .i64 0, l_0]) (r := []) rfl rfl .nil) hp34 ha35) ?_
    refine lc 19 R13_2_N rfl rfl ⟨_, rfl, .inl ⟨_, rfl, gq hb7 rfl⟩⟩ (opc_of rfl rfl is16 (ma_cons rfl (ma_cons rfl rfl))) H (fun _ _ h => ⟨rfl, h⟩) fun r36 aw37 H => ?_
    refine lj 20 R13_2_N rfl rfl ⟨_, rfl, .inl ⟨_, rfl, gq hb7 rfl⟩⟩ (opv_neI rfl rfl rfl rfl rfl) ?_
    refine lj 21 R13_2_N rfl rfl rfl (ov_pickF rfl rfl rfl rfl rfl hb7 rfl) ?_
    refine aops_nil ?_
    refine ago_condE  (rfl : C13_7 = .cond (.tmp 21) C13_8 C13_11) rfl rfl (fun hb38 => ?_) (fun hb38 => ?_)
    · exact (cnd_t H hb38).elim
    replace H := cnd_f H hb38
    refine ago_skipE (rfl : C13_11 = .skip) ?_
    refine ago_seqE (rfl : C13_12 = .seq C13_13 C13_14) ?_
    refine ago_cut (fun ρ => ρ 1 = .int .i64 fuel_1 ∧ ρ 4 = p1 ∧ ρ 6 = r5.1 ∧ True) ⟨h1, rfl, rfl, trivial⟩ (fun ρ ⟨h1, h4, h6, _⟩ => ?_)
    refine ago_regE (rfl : C13_13 = .region 4 R13_4 false) (l := [0, 1, 2, 3, 4, 5]) rfl ?_
    refine lj 23 R13_4_N rfl rfl rfl (opv_move rfl rfl h6) ?_
    refine lj 24 R13_4_N rfl rfl rfl (opv_move rfl rfl h1) ?_
    refine lc 25 R13_4_N rfl rfl rfl (opc_of rfl rfl is17 (ma_cons rfl (ma_cons rfl (ma_cons rfl (ma_cons rfl (ma_cons rfl rfl)))))) H (fun _ _ h => ⟨rfl, h⟩) fun r39 aw40 H => ?_
    refine lj 26 R13_4_N rfl rfl rfl (opv_move rfl rfl h6) ?_
    obtain ⟨b42, i43, aw41, hp44, hw45, ho46, ha47, H⟩ := H
    refine lk (dt := none) R13_4_N rfl rfl rfl (ov_st rfl rfl rfl h4 rfl rfl sz29 hp44 hw45 ho46 ha47) ?_
    refine lj 5 R13_4_N rfl rfl rfl (opv_assign rfl rfl rfl) ?_
    refine aops_nil ?_
    obtain ⟨b48, i49, hp50, c51, hg57, c52, hg58, c53, hg59, c54, hg60, c55, hg61, c56, hg62, H⟩ := H
    exact ago_retE (rfl : C13_14 = .ret) (r := (c51, c52, c53, c54, c55, c56, r5.1)) (ares_2 rfl (oneN h4 hp50 underlying29 rfl sz29 (getN_cons hg57 (getN_cons hg58 (getN_cons hg59 (getN_cons hg60 (getN_cons hg61 (getN_cons hg62 getN_nil))))))) (oneT rfl)) rfl H
theorem F13_ok {Q : (Int × Int × ByteArray × ByteArray × Value × Int × Value) → AW → Prop} {E : List PanicEntry → AW → Prop} (l_0 : Value) (fuel_1 : Int) (aw : AW) (H : S13_0 Q E l_0 fuel_1 aw) : CallP prog 13 [l_0, .int .i64 fuel_1] aw sh13 Q E :=
  callP_of func13 C13_is rfl (Nat.le_of_ble_eq_true rfl) (S13_0_ok Q E _ l_0 fuel_1 aw rfl rfl H)
end
end Go.Proofs.Tryd
