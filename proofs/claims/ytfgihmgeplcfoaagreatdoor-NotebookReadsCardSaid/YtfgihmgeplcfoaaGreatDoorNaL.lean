/- Printed by a program of the prover: what the Go functions of this seat do, in steps. -/
import Derived.Test.YtfgihmgeplcfoaaGreatDoorNaF
import Derived.Test.YtfgihmgeplcfoaaGreatDoorNaB
import Derived.Test.YtfgihmgeplcfoaaGreatDoorNaC
import Derived.Test.YtfgihmgeplcfoaaGreatDoorNaD
set_option linter.unusedSectionVars false
set_option linter.unusedSimpArgs false
set_option linter.unusedVariables false
namespace Go.Proofs.Tryz
open Go Go.Am Go.RowKit
set_option maxHeartbeats 4000000
set_option maxRecDepth 100000
noncomputable section
variable [SymE]
def C4_0 := bodyOf f4
theorem C4_is : f4.body = some C4_0 := by kernel_rfl
def C4_1 := cl C4_0
def R4_0 := regOps C4_1
def C4_2 := cr C4_0
def C4_3 := cl C4_2
def C4_4 := cl C4_3
def R4_1 := regOps C4_4
def C4_5 := cr C4_3
def C4_6 := cl C4_5
def C4_7 := cl C4_6
def R4_2 := regOps C4_7
def C4_8 := cr C4_6
def C4_9 := cr C4_5
def C4_10 := cr C4_2
def C4_11 := cl C4_10
def R4_3 := regOps C4_11
def C4_12 := cr C4_10
def C4_13 := cl C4_12
def C4_14 := cl C4_13
def R4_4 := regOps C4_14
def C4_15 := cr C4_13
def C4_16 := cl C4_15
def C4_17 := cl C4_16
def R4_5 := regOps C4_17
def C4_18 := cr C4_16
def C4_19 := cr C4_15
def C4_20 := cr C4_12
def C4_21 := cl C4_20
def R4_6 := regOps C4_21
def C4_22 := cr C4_20
theorem R4_0_N : dstsOk 33 R4_0 = true := by decide +kernel
theorem R4_1_N : dstsOk 33 R4_1 = true := by decide +kernel
theorem R4_2_N : dstsOk 33 R4_2 = true := by decide +kernel
theorem R4_3_N : dstsOk 33 R4_3 = true := by decide +kernel
theorem R4_4_N : dstsOk 33 R4_4 = true := by decide +kernel
theorem R4_5_N : dstsOk 33 R4_5 = true := by decide +kernel
theorem R4_6_N : dstsOk 33 R4_6 = true := by decide +kernel
theorem R4_6_O : linOk R4_6 [0, 3, 4] [(1, [3, 4], [2, 5, 6])] = true := by decide +kernel
def S4_1 (Q : Bool → AW → Prop) (E : List PanicEntry → AW → Prop)  (p_0 : Value) (t_11 : Bool) (aw : AW) : Prop :=
  cnd t_11 (CallP prog 5 [] aw sh5 (fun r2 aw3 =>
  Q r2 aw3) E) (CallP prog 7 [p_0] aw sh7 (fun r4 aw5 =>
  alc aw5 [.int .i64 0, .int .i64 0, .string (⟨#[]⟩ : ByteArray), (.slice none 0 0), .string (⟨#[]⟩ : ByteArray), (.slice none 0 0)] 26 0 fun p6 aw7 =>
  st aw7 p6 [.int .i64 r4.1, .int .i64 r4.2.1, .string r4.2.2.1, r4.2.2.2.1, .string r4.2.2.2.2.1, r4.2.2.2.2.2.1] fun aw10 =>
  cnd (!decide (r4.2.2.2.2.2.2 = 0)) (cnd (decide (r4.2.2.2.2.2.2 = 3)) (ptr p6 fun b19 i20 =>
  gI .i64 aw10 b19 i20 fun c22 =>
  gI .i64 aw10 b19 (i20 + 1) fun c23 =>
  gS aw10 b19 (i20 + 2) fun c24 =>
  gV aw10 b19 (i20 + 3) fun c25 =>
  gS aw10 b19 (i20 + 4) fun c26 =>
  gV aw10 b19 (i20 + 5) fun c27 =>
  CallP prog 9 [.agg #[.int .i64 c22, .int .i64 c23, .string c24, c25, .string c26, c27], .agg #[.int .i64 0, .int .i64 0, .string (⟨#[]⟩ : ByteArray), (.slice none 0 0), .string (⟨#[]⟩ : ByteArray), (.slice none 0 0)]] aw10 sh9 (fun r34 aw35 =>
  Q r34 aw35) E) (Q false aw10)) (ptr p6 fun b36 i37 =>
  gI .i64 aw10 b36 i37 fun c39 =>
  gI .i64 aw10 b36 (i37 + 1) fun c40 =>
  gS aw10 b36 (i37 + 2) fun c41 =>
  gV aw10 b36 (i37 + 3) fun c42 =>
  gS aw10 b36 (i37 + 4) fun c43 =>
  gV aw10 b36 (i37 + 5) fun c44 =>
  toS aw10 p_0 fun s51 =>
  CallP prog 6 [.agg #[.int .i64 c39, .int .i64 c40, .string c41, c42, .string c43, c44]] aw10 sh6 (fun r58 aw59 =>
  againS aw59 p_0 s51 ∧ toS aw59 r58 fun s60 =>
  Q (decide (s60 = s51)) aw59) E)) E)
def S4_0 (Q : Bool → AW → Prop) (E : List PanicEntry → AW → Prop)  (p_0 : Value) (aw : AW) : Prop :=
  CallP prog 5 [] aw sh5 (fun r67 aw68 =>
  cnd (!r67) (S4_1 Q E  p_0 true aw68) (slen p_0 fun n70 =>
  S4_1 Q E  p_0 (decide (3000 < n70)) aw68)) E
theorem S4_1_ok (Q : Bool → AW → Prop) (E : List PanicEntry → AW → Prop)  (ρ : Env) (p_0 : Value) (t_11 : Bool) (aw : AW) (h0 : ρ 0 = p_0) (h11 : ρ 11 = .bool t_11) (H : S4_1 Q E  p_0 t_11 aw) :
    AGo prog 33 [.code C4_5, .code C4_10] ρ [] aw (RR prog f4 33 sh4 Q E) := by
  unfold S4_1 at H
  refine ago_condE  (rfl : C4_5 = .cond (.tmp 11) C4_6 C4_9) rfl h11 (fun hb1 => ?_) (fun hb1 => ?_)
  · replace H := cnd_t H hb1
    refine ago_seqE (rfl : C4_6 = .seq C4_7 C4_8) ?_
    refine ago_regE (rfl : C4_7 = .region 2 R4_2 false) (l := [0, 1]) rfl ?_
    refine lc 12 R4_2_N rfl rfl rfl (opc_of rfl rfl is5 rfl) H (fun _ _ h => ⟨rfl, h⟩) fun r2 aw3 H => ?_
    refine lj 2 R4_2_N rfl rfl rfl (opv_assign rfl rfl rfl) ?_
    refine aops_nil ?_
    exact ago_retE (rfl : C4_8 = .ret) (r := r2) (ares_1 rfl (oneT rfl)) rfl H
  replace H := cnd_f H hb1
  refine ago_skipE (rfl : C4_9 = .skip) ?_
  refine ago_seqE (rfl : C4_10 = .seq C4_11 C4_12) ?_
  refine ago_regE (rfl : C4_11 = .region 3 R4_3 false) (l := [0, 1, 2, 3, 4, 5, 6, 7]) rfl ?_
  refine lj 14 R4_3_N rfl rfl rfl (opv_move rfl rfl h0) ?_
  refine lc 15 R4_3_N rfl rfl rfl (opc_of rfl rfl is7 (ma_cons rfl rfl)) H (fun _ _ h => ⟨rfl, h⟩) fun r4 aw5 H => ?_
  refine lj 13 R4_3_N rfl rfl rfl (opv_move rfl rfl rfl) ?_
  refine lj 16 R4_3_N rfl rfl rfl (opv_extract rfl rfl rfl rfl) ?_
  refine lj 17 R4_3_N rfl rfl rfl (opv_extract rfl rfl rfl rfl) ?_
  obtain ⟨p6, aw7, hp8, ha9, H⟩ := H
  refine lj 3 R4_3_N rfl rfl rfl (ov_alloc rfl z26 rfl rfl hp8 ha9) ?_
  obtain ⟨b11, i12, aw10, hp13, hw14, ho15, ha16, H⟩ := H
  refine lk (dt := none) R4_3_N rfl rfl rfl (ov_st rfl rfl rfl rfl rfl rfl sz26 hp13 hw14 ho15 ha16) ?_
  refine lj 4 R4_3_N rfl rfl rfl (opv_assign rfl rfl rfl) ?_
  refine aops_nil ?_
  refine ago_seqE (rfl : C4_12 = .seq C4_13 C4_20) ?_
  refine ago_seqE (rfl : C4_13 = .seq C4_14 C4_15) ?_
  refine ago_regE (rfl : C4_14 = .region 4 R4_4 false) (l := [0, 1]) rfl ?_
  refine lj 18 R4_4_N rfl rfl rfl (opv_move rfl rfl rfl) ?_
  refine lj 19 R4_4_N rfl rfl rfl (opv_neI rfl rfl rfl rfl rfl) ?_
  refine aops_nil ?_
  refine ago_condE  (rfl : C4_15 = .cond (.tmp 19) C4_16 C4_19) rfl rfl (fun hb17 => ?_) (fun hb17 => ?_)
  · replace H := cnd_t H hb17
    refine ago_seqE (rfl : C4_16 = .seq C4_17 C4_18) ?_
    refine ago_regE (rfl : C4_17 = .region 5 R4_5 false) (l := [0, 1, 2, 3, 4, 5, 6, 7]) rfl ?_
    refine lj 20 R4_5_N rfl rfl rfl (opv_move rfl rfl rfl) ?_
    refine lj 21 R4_5_N rfl rfl rfl (opv_eqI rfl rfl rfl rfl rfl) ?_
    refine lj 22 R4_5_N rfl rfl rfl (opv_move rfl rfl rfl) ?_
    rcases Bool.eq_false_or_eq_true (decide (r4.2.2.2.2.2.2 = 3)) with hb18 | hb18
    · replace H := cnd_t H hb18
      obtain ⟨b19, i20, hp21, c22, hg28, c23, hg29, c24, hg30, c25, hg31, c26, hg32, c27, hg33, H⟩ := H
      refine lj 23 R4_5_N rfl rfl ⟨_, rfl, .inl ⟨_, rfl, gq hb18 rfl⟩⟩ (ov_ldN rfl underlying26 rfl sz26 rfl rfl hp21 (getN_cons hg28 (getN_cons hg29 (getN_cons hg30 (getN_cons hg31 (getN_cons hg32 (getN_cons hg33 getN_nil))))))) ?_
      refine lj 24 R4_5_N rfl rfl ⟨_, rfl, .inl ⟨_, rfl, gq hb18 rfl⟩⟩ (ov_bld (r := [.int .i64 0, .int .i64 0, .string (⟨#[]⟩ : ByteArray), (.slice none 0 0), .string (⟨#[]⟩ : ByteArray), (.slice none 0 0)]) rfl rfl bo26 rfl (fillN rfl)) ?_
      refine lc 25 R4_5_N rfl rfl ⟨_, rfl, .inl ⟨_, rfl, gq hb18 rfl⟩⟩ (opc_of rfl rfl is9 (ma_cons rfl (ma_cons rfl rfl))) H (fun _ _ h => ⟨rfl, h⟩) fun r34 aw35 H => ?_
      refine lj 26 R4_5_N rfl rfl rfl (ov_pickT rfl rfl rfl rfl rfl hb18 rfl) ?_
      refine lj 2 R4_5_N rfl rfl rfl (opv_assign rfl rfl rfl) ?_
      refine aops_nil ?_
      exact ago_retE (rfl : C4_18 = .ret) (r := r34) (ares_1 rfl (oneT rfl)) rfl H
    · replace H := cnd_f H hb18
      refine ls 23 R4_5_N rfl rfl ⟨_, rfl, .inl ⟨_, rfl, gq hb18 rfl⟩⟩ ?_
      refine ls 24 R4_5_N rfl rfl ⟨_, rfl, .inl ⟨_, rfl, gq hb18 rfl⟩⟩ ?_
      refine ls 25 R4_5_N rfl rfl ⟨_, rfl, .inl ⟨_, rfl, gq hb18 rfl⟩⟩ ?_
      refine lj 26 R4_5_N rfl rfl rfl (ov_pickF rfl rfl rfl rfl rfl hb18 rfl) ?_
      refine lj 2 R4_5_N rfl rfl rfl (opv_assign rfl rfl rfl) ?_
      refine aops_nil ?_
      exact ago_retE (rfl : C4_18 = .ret) (r := false) (ares_1 rfl (oneT rfl)) rfl H
  replace H := cnd_f H hb17
  refine ago_skipE (rfl : C4_19 = .skip) ?_
  refine ago_seqE (rfl : C4_20 = .seq C4_21 C4_22) ?_
  obtain ⟨b36, i37, hp38, c39, hg45, c40, hg46, c41, hg47, c42, hg48, c43, hg49, c44, hg50, H⟩ := H
  obtain ⟨l56, n55, s51, hs52, hq53, hv54, H⟩ := H
  have hl57 := srcB_len hs52
  refine ago_drawH (p := [0, 3, 4]) (tl := [(1, [3, 4], [2, 5, 6])]) (hv := [(0, Value.agg #[.int .i64 c39, .int .i64 c40, .string c41, c42, .string c43, c44]), (3, p_0), (4, Value.string s51)]) (rfl : C4_21 = .region 6 R4_6 true) mixed R4_6_N R4_6_O rfl (pv_cons rfl (pv_cons rfl (pv_cons rfl (pv_nil _))))
    (fc 27 (.agg #[.int .i64 c39, .int .i64 c40, .string c41, c42, .string c43, c44]) (hd_v rfl fun ρ hρ => ⟨rfl, ov_ldN rfl underlying26 rfl sz26 rfl ((hρ 3 (lmem rfl)).trans rfl) hp38 (getN_cons hg45 (getN_cons hg46 (getN_cons hg47 (getN_cons hg48 (getN_cons hg49 (getN_cons hg50 getN_nil))))))⟩) rfl rfl
    (fc 30 p_0 (hd_v rfl fun ρ hρ => ⟨rfl, opv_move rfl rfl ((hρ 0 (lmem rfl)).trans h0)⟩) rfl rfl
    (fc 31 (.string s51) (hd_v rfl fun ρ hρ => ⟨rfl, ov_toS rfl rfl underlying30 underlying9 underlying5 ((hρ 30 (lmem rfl)).trans rfl) hs52 hq53 hv54⟩) rfl rfl
    ffn))) ?_
  refine lt_call (dt := some 28) rfl rfl (fun ρ hρ => ⟨rfl, opc_of rfl rfl is6 (ma_cons ((hρ 27 (lmem rfl)).trans rfl) rfl)⟩) H (fun _ _ h _ => ⟨rfl, h⟩) fun r58 aw59 H => ?_
  obtain ⟨hs52, H⟩ := H
  replace hs52 := hs52 _ n55 hl57 hq53 hv54
  obtain ⟨l65, n64, s60, hs61, hq62, hv63, H⟩ := H
  have hl66 := srcB_len hs61
  refine lt_next (l := [3, 4, 2, 5, 6]) (hv := [(2, Value.string s60), (5, Value.bool (decide (s60 = s51))), (6, Value.bool (decide (s60 = s51)))]) rfl rfl (pv_cons rfl (pv_cons rfl (pv_cons rfl (pv_nil _))))
    (fc 30 p_0 (hd_v rfl fun ρ hρ => ⟨rfl, opv_move rfl rfl ((hρ 0 (lmem rfl)).trans h0)⟩) rfl rfl
    (fc 31 (.string s51) (hd_v rfl fun ρ hρ => ⟨rfl, ov_toS rfl rfl underlying30 underlying9 underlying5 ((hρ 30 (lmem rfl)).trans rfl) hs52 hq53 hv54⟩) rfl rfl
    (fc 29 (.string s60) (hd_v rfl fun ρ hρ => ⟨rfl, ov_toS rfl rfl underlying30 underlying9 underlying5 ((hρ 28 (lmem rfl)).trans rfl) hs61 hq62 hv63⟩) rfl rfl
    (fc 32 (.bool (decide (s60 = s51))) (hd_v rfl fun ρ hρ => ⟨rfl, opv_eqS rfl rfl rfl ((hρ 29 (lmem rfl)).trans rfl) ((hρ 31 (lmem rfl)).trans rfl)⟩) rfl rfl
    (fc 2 (.bool (decide (s60 = s51))) (hd_v rfl fun ρ hρ => ⟨rfl, opv_assign rfl rfl ((hρ 32 (lmem rfl)).trans rfl)⟩) rfl rfl
    ffn))))) ?_
  refine lt_end ?_
  exact ago_retE (rfl : C4_22 = .ret) (r := (decide (s60 = s51))) (ares_1 rfl (oneT rfl)) rfl H
theorem S4_0_ok (Q : Bool → AW → Prop) (E : List PanicEntry → AW → Prop)  (ρ : Env) (p_0 : Value) (aw : AW) (h0 : ρ 0 = p_0) (H : S4_0 Q E  p_0 aw) :
    AGo prog 33 [.code C4_0] ρ [] aw (RR prog f4 33 sh4 Q E) := by
  unfold S4_0 at H
  refine ago_seqE (rfl : C4_0 = .seq C4_1 C4_2) ?_
  refine ago_regE (rfl : C4_1 = .region 0 R4_0 false) (l := [0]) rfl ?_
  refine lj 2 R4_0_N rfl rfl rfl (opv_assign rfl rfl rfl) ?_
  refine aops_nil ?_
  refine ago_seqE (rfl : C4_2 = .seq C4_3 C4_10) ?_
  refine ago_seqE (rfl : C4_3 = .seq C4_4 C4_5) ?_
  refine ago_regE (rfl : C4_4 = .region 1 R4_1 false) (l := [0, 1, 2, 3, 4, 5, 6]) rfl ?_
  refine lc 5 R4_1_N rfl rfl rfl (opc_of rfl rfl is5 rfl) H (fun _ _ h => ⟨rfl, h⟩) fun r67 aw68 H => ?_
  refine lj 6 R4_1_N rfl rfl rfl (opv_not rfl rfl rfl) ?_
  refine lj 7 R4_1_N rfl rfl rfl (opv_move rfl rfl rfl) ?_
  rcases Bool.eq_false_or_eq_true (!r67) with hb69 | hb69
  · replace H := cnd_t H hb69
    refine ls 8 R4_1_N rfl rfl ⟨_, rfl, .inl ⟨_, rfl, gq hb69 rfl⟩⟩ ?_
    refine ls 9 R4_1_N rfl rfl ⟨_, rfl, .inl ⟨_, rfl, gq hb69 rfl⟩⟩ ?_
    refine ls 10 R4_1_N rfl rfl ⟨_, rfl, .inl ⟨_, rfl, gq hb69 rfl⟩⟩ ?_
    refine lj 11 R4_1_N rfl rfl rfl (ov_pickT rfl rfl rfl rfl rfl hb69 rfl) ?_
    refine aops_nil ?_
    exact S4_1_ok Q E  _ p_0 true aw68 h0 rfl H
  · replace H := cnd_f H hb69
    refine lj 8 R4_1_N rfl rfl ⟨_, rfl, .inl ⟨_, rfl, gq hb69 rfl⟩⟩ (opv_move rfl rfl h0) ?_
    obtain ⟨q71, l72, c73, n70, hv74, hn75, H⟩ := H
    refine lj 9 R4_1_N rfl rfl ⟨_, rfl, .inl ⟨_, rfl, gq hb69 rfl⟩⟩ (ov_len rfl rfl rfl underlying30 rfl hv74 hn75) ?_
    refine lj 10 R4_1_N rfl rfl ⟨_, rfl, .inl ⟨_, rfl, gq hb69 rfl⟩⟩ (opv_gt rfl rfl rfl rfl rfl) ?_
    refine lj 11 R4_1_N rfl rfl rfl (ov_pickF rfl rfl rfl rfl rfl hb69 rfl) ?_
    refine aops_nil ?_
    exact S4_1_ok Q E  _ p_0 (decide (3000 < n70)) aw68 h0 rfl H
theorem F4_ok {Q : Bool → AW → Prop} {E : List PanicEntry → AW → Prop} (p_0 : Value) (aw : AW) (H : S4_0 Q E p_0 aw) : CallP prog 4 [p_0] aw sh4 Q E :=
  callP_of func4 C4_is rfl (Nat.le_of_ble_eq_true rfl) (S4_0_ok Q E _ p_0 aw rfl H)
end
end Go.Proofs.Tryz
