/- Printed by a program of the prover: what the Go functions of this seat do, in steps. -/
import Derived.Test.YtfdfakapkhflcaaBaF
set_option linter.unusedSectionVars false
set_option linter.unusedSimpArgs false
set_option linter.unusedVariables false
namespace Go.Proofs.Try
open Go Go.Am Go.RowKit
set_option maxHeartbeats 4000000
set_option maxRecDepth 100000
noncomputable section
variable [SymE]
def C61_0 : Code := bodyOf f61
theorem C61_is : f61.body = some C61_0 := by kernel_rfl
def C61_1 : Code := cl C61_0
def R61_0 : Array Oper := regOps C61_1
def C61_2 : Code := cr C61_0
def C61_3 : Code := cl C61_2
def R61_1 : Array Oper := regOps C61_3
def C61_4 : Code := cr C61_2
def C61_5 : Code := cl C61_4
def R61_2 : Array Oper := regOps C61_5
def C61_6 : Code := cr C61_4
def C61_7 : Code := cl C61_6
def R61_3 : Array Oper := regOps C61_7
def C61_8 : Code := cr C61_6
def C61_9 : Code := cl C61_8
def R61_4 : Array Oper := regOps C61_9
def C61_10 : Code := cr C61_8
theorem R61_0_N : dstsOk 56 R61_0 = true := by decide +kernel
theorem E61_1 : C61_1 = .region 0 R61_0 false := rfl
theorem R61_1_N : dstsOk 56 R61_1 = true := by decide +kernel
theorem E61_3 : C61_3 = .region 1 R61_1 false := rfl
theorem R61_2_N : dstsOk 56 R61_2 = true := by decide +kernel
theorem E61_5 : C61_5 = .region 2 R61_2 false := rfl
theorem R61_3_N : dstsOk 56 R61_3 = true := by decide +kernel
theorem E61_7 : C61_7 = .region 3 R61_3 false := rfl
theorem R61_4_N : dstsOk 56 R61_4 = true := by decide +kernel
theorem E61_9 : C61_9 = .region 4 R61_4 false := rfl
theorem E61_10 : C61_10 = .skip := rfl
theorem E61_8 : C61_8 = .cond (.tmp 50) C61_9 C61_10 := rfl
theorem E61_6 : C61_6 = .seq C61_7 C61_8 := rfl
theorem E61_4 : C61_4 = .seq C61_5 C61_6 := rfl
theorem E61_2 : C61_2 = .seq C61_3 C61_4 := rfl
theorem E61_0 : C61_0 = .seq C61_1 C61_2 := rfl
def S61_0 (Q : Unit → AW → Prop) (E : List PanicEntry → AW → Prop)  (p_0 : Value) (aw : AW) : Prop :=
  nck p_0 (fldA p_0 0 fun p2 =>
  fldA p2 15 fun p7 =>
  ldV aw p7 fun x15 =>
  CallP prog 73 [x15] aw sh73 (fun r17 aw18 =>
  CallP prog 72 [r17] aw18 sh72 (fun r19 aw20 =>
  nck p_0 (fldA p_0 0 fun p22 =>
  fldA p22 0 fun p27 =>
  ldI .i64 aw20 p27 fun x35 =>
  ixS r19 (IntKind.i64.wrap (Int.tdiv (IntKind.i64.wrap (x35 - 1)) 2)) 1 fun p37 =>
  ldI .u64 aw20 p37 fun x49 =>
  nck p_0 (fldA p_0 0 fun p52 =>
  ptr p52 fun b57 i58 =>
  gI .i64 aw20 b57 i58 fun c60 =>
  gI .i64 aw20 b57 (i58 + 1) fun c61 =>
  gI .i64 aw20 b57 (i58 + 2) fun c62 =>
  gI .u64 aw20 b57 (i58 + 3) fun c63 =>
  gI .i64 aw20 b57 (i58 + 4) fun c64 =>
  gI .u64 aw20 b57 (i58 + 5) fun c65 =>
  gI .u64 aw20 b57 (i58 + 6) fun c66 =>
  gV aw20 b57 (i58 + 7) fun c67 =>
  gV aw20 b57 (i58 + 8) fun c68 =>
  gI .u64 aw20 b57 (i58 + 9) fun c69 =>
  gI .u8 aw20 b57 (i58 + 10) fun c70 =>
  gI .i64 aw20 b57 (i58 + 11) fun c71 =>
  gI .i64 aw20 b57 (i58 + 12) fun c72 =>
  gV aw20 b57 (i58 + 13) fun c73 =>
  gV aw20 b57 (i58 + 14) fun c74 =>
  gV aw20 b57 (i58 + 15) fun c75 =>
  CallP prog 27 [.agg #[.int .i64 c60, .int .i64 c61, .int .i64 c62, .int .u64 c63, .int .i64 c64, .int .u64 c65, .int .u64 c66, c67, c68, .int .u64 c69, .int .u8 c70, .int .i64 c71, .int .i64 c72, c73, c74, c75], .int .u64 x49] aw20 sh27 (fun r92 aw93 =>
  cnd r92.2 (nck p_0 (fldA p_0 0 fun p96 =>
  fldA p96 9 fun p101 =>
  ldI .u64 aw93 p101 fun x109 =>
  cnd (decide (x109 < x49)) (nck p_0 (fldA p_0 0 fun p113 =>
  fldA p113 3 fun p118 =>
  ldI .u64 aw93 p118 fun x126 =>
  cnd (decide (r92.1 = x126)) (nck p_0 (fldA p_0 0 fun p130 =>
  fldA p130 9 fun p135 =>
  st aw93 p135 [.int .u64 x49] fun aw140 =>
  Q () aw140)) (Q () aw93))) (Q () aw93))) (Q () aw93)) E))) E) E)
theorem S61_0_ok (Q : Unit → AW → Prop) (E : List PanicEntry → AW → Prop)  (ρ : Env) (p_0 : Value) (aw : AW) (h0 : ρ 0 = p_0) (H : S61_0 Q E  p_0 aw) :
    AGo prog 56 [.code C61_0] ρ [] aw (RR prog f61 56 sh61 Q E) := by
  unfold S61_0 at H
  refine ago_seqE E61_0 ?_
  refine ago_regE E61_1 (l := [0, 1, 2, 3, 4, 5, 6, 7]) rfl ?_
  refine lk (dt := some 6) R61_0_N rfl rfl rfl (opv_move rfl rfl h0) ?_
  obtain ⟨hp1, H⟩ := H
  refine lk (dt := some 7) R61_0_N rfl rfl rfl (ov_nck rfl rfl rfl hp1) ?_
  obtain ⟨b3, i4, p2, hp5, hv6, H⟩ := H
  refine lk (dt := some 8) R61_0_N rfl rfl rfl (ov_fldA rfl rfl underlying76 rfl sz30 (by decide) rfl hp5 rfl hv6) ?_
  obtain ⟨b8, i9, p7, hp10, hv11, H⟩ := H
  refine lk (dt := some 9) R61_0_N rfl rfl rfl (ov_fldA rfl rfl underlying30 rfl sz28 (by decide) rfl hp10 rfl hv11) ?_
  obtain ⟨b12, i13, x15, hp14, hg16, H⟩ := H
  refine lk (dt := some 10) R61_0_N rfl rfl rfl (ov_ldV rfl underlying28 rfl rfl rfl hp14 hg16) ?_
  refine lk_call (dt := some 11) R61_0_N rfl rfl rfl (opc_of rfl rfl is73 (ma_cons rfl rfl)) H (fun _ _ h => ⟨rfl, h⟩) fun r17 aw18 H => ?_
  refine lk_call (dt := some 12) R61_0_N rfl rfl rfl (opc_of rfl rfl is72 (ma_cons rfl rfl)) H (fun _ _ h => ⟨rfl, h⟩) fun r19 aw20 H => ?_
  refine lk (dt := some 2) R61_0_N rfl rfl rfl (opv_assign rfl rfl rfl) ?_
  refine aops_nil ?_
  refine ago_seqE E61_2 ?_
  refine ago_regE E61_3 (l := [0, 1, 2, 3, 4, 5, 6, 7, 8, 9, 10]) rfl ?_
  refine lk (dt := some 13) R61_1_N rfl rfl rfl (opv_move rfl rfl rfl) ?_
  refine lk (dt := some 14) R61_1_N rfl rfl rfl (opv_move rfl rfl h0) ?_
  obtain ⟨hp21, H⟩ := H
  refine lk (dt := some 15) R61_1_N rfl rfl rfl (ov_nck rfl rfl rfl hp21) ?_
  obtain ⟨b23, i24, p22, hp25, hv26, H⟩ := H
  refine lk (dt := some 16) R61_1_N rfl rfl rfl (ov_fldA rfl rfl underlying76 rfl sz30 (by decide) rfl hp25 rfl hv26) ?_
  obtain ⟨b28, i29, p27, hp30, hv31, H⟩ := H
  refine lk (dt := some 17) R61_1_N rfl rfl rfl (ov_fldA rfl rfl underlying30 rfl sz3 (by decide) rfl hp30 rfl hv31) ?_
  obtain ⟨b32, i33, x35, hp34, hg36, H⟩ := H
  refine lk (dt := some 18) R61_1_N rfl rfl rfl (ov_ldI rfl underlying3 rfl rfl hp34 hg36) ?_
  refine lk (dt := some 19) R61_1_N rfl rfl rfl (opv_sub rfl rfl rfl rfl rfl) ?_
  refine lk (dt := some 20) R61_1_N rfl rfl rfl (opv_quo rfl rfl rfl rfl rfl (by decide)) ?_
  obtain ⟨b38, i39, l40, c41, p37, hp42, h043, hj44, hv45, H⟩ := H
  refine lk (dt := some 21) R61_1_N rfl rfl rfl (ov_ixS rfl rfl rfl underlying28 sz24 rfl rfl hp42 h043 hj44 hv45) ?_
  obtain ⟨b46, i47, x49, hp48, hg50, H⟩ := H
  refine lk (dt := some 22) R61_1_N rfl rfl rfl (ov_ldI rfl underlying24 rfl rfl hp48 hg50) ?_
  refine lk (dt := some 3) R61_1_N rfl rfl rfl (opv_assign rfl rfl rfl) ?_
  refine aops_nil ?_
  refine ago_seqE E61_4 ?_
  refine ago_cut (fun ρ => ρ 0 = p_0 ∧ ρ 3 = .int .u64 x49 ∧ True) ⟨h0, rfl, trivial⟩ (fun ρ ⟨h0, h3, _⟩ => ?_)
  refine ago_regE E61_5 (l := [0, 1, 2, 3, 4, 5, 6, 7, 8, 9, 10]) rfl ?_
  refine lk (dt := some 24) R61_2_N rfl rfl rfl (opv_move rfl rfl h0) ?_
  obtain ⟨hp51, H⟩ := H
  refine lk (dt := some 25) R61_2_N rfl rfl rfl (ov_nck rfl rfl rfl hp51) ?_
  obtain ⟨b53, i54, p52, hp55, hv56, H⟩ := H
  refine lk (dt := some 26) R61_2_N rfl rfl rfl (ov_fldA rfl rfl underlying76 rfl sz30 (by decide) rfl hp55 rfl hv56) ?_
  obtain ⟨b57, i58, hp59, c60, hg76, c61, hg77, c62, hg78, c63, hg79, c64, hg80, c65, hg81, c66, hg82, c67, hg83, c68, hg84, c69, hg85, c70, hg86, c71, hg87, c72, hg88, c73, hg89, c74, hg90, c75, hg91, H⟩ := H
  refine lk (dt := some 27) R61_2_N rfl rfl rfl (ov_ldN rfl underlying30 rfl sz30 rfl rfl hp59 (getN_cons hg76 (getN_cons hg77 (getN_cons hg78 (getN_cons hg79 (getN_cons hg80 (getN_cons hg81 (getN_cons hg82 (getN_cons hg83 (getN_cons hg84 (getN_cons hg85 (getN_cons hg86 (getN_cons hg87 (getN_cons hg88 (getN_cons hg89 (getN_cons hg90 (getN_cons hg91 getN_nil))))))))))))))))) ?_
  refine lk (dt := some 28) R61_2_N rfl rfl rfl (opv_move rfl rfl h3) ?_
  refine lk_call (dt := some 29) R61_2_N rfl rfl rfl (opc_of rfl rfl is27 (ma_cons rfl (ma_cons rfl rfl))) H (fun _ _ h => ⟨rfl, h⟩) fun r92 aw93 H => ?_
  refine lk (dt := some 23) R61_2_N rfl rfl rfl (opv_move rfl rfl rfl) ?_
  refine lk (dt := some 30) R61_2_N rfl rfl rfl (opv_extract rfl rfl rfl rfl) ?_
  refine lk (dt := some 31) R61_2_N rfl rfl rfl (opv_extract rfl rfl rfl rfl) ?_
  refine lk (dt := some 4) R61_2_N rfl rfl rfl (opv_assign rfl rfl rfl) ?_
  refine lk (dt := some 5) R61_2_N rfl rfl rfl (opv_assign rfl rfl rfl) ?_
  refine aops_nil ?_
  refine ago_seqE E61_6 ?_
  refine ago_regE E61_7 (l := [0, 1, 2, 3, 4, 5, 6, 7, 8, 9, 10, 11, 12, 13, 14, 15, 16, 17, 18]) rfl ?_
  refine lk (dt := some 32) R61_3_N rfl rfl rfl (opv_move rfl rfl rfl) ?_
  refine lk (dt := some 33) R61_3_N rfl rfl rfl (opv_move rfl rfl rfl) ?_
  rcases Bool.eq_false_or_eq_true r92.2 with hb94 | hb94
  · replace H := cnd_t H hb94
    refine lk (dt := some 34) R61_3_N rfl rfl ⟨_, rfl, .inl ⟨_, rfl, gq hb94 rfl⟩⟩ (opv_move rfl rfl h3) ?_
    refine lk (dt := some 35) R61_3_N rfl rfl ⟨_, rfl, .inl ⟨_, rfl, gq hb94 rfl⟩⟩ (opv_move rfl rfl h0) ?_
    obtain ⟨hp95, H⟩ := H
    refine lk (dt := some 36) R61_3_N rfl rfl ⟨_, rfl, .inl ⟨_, rfl, gq hb94 rfl⟩⟩ (ov_nck rfl rfl rfl hp95) ?_
    obtain ⟨b97, i98, p96, hp99, hv100, H⟩ := H
    refine lk (dt := some 37) R61_3_N rfl rfl ⟨_, rfl, .inl ⟨_, rfl, gq hb94 rfl⟩⟩ (ov_fldA rfl rfl underlying76 rfl sz30 (by decide) rfl hp99 rfl hv100) ?_
    obtain ⟨b102, i103, p101, hp104, hv105, H⟩ := H
    refine lk (dt := some 38) R61_3_N rfl rfl ⟨_, rfl, .inl ⟨_, rfl, gq hb94 rfl⟩⟩ (ov_fldA rfl rfl underlying30 rfl sz24 (by decide) rfl hp104 rfl hv105) ?_
    obtain ⟨b106, i107, x109, hp108, hg110, H⟩ := H
    refine lk (dt := some 39) R61_3_N rfl rfl ⟨_, rfl, .inl ⟨_, rfl, gq hb94 rfl⟩⟩ (ov_ldI rfl underlying24 rfl rfl hp108 hg110) ?_
    refine lk (dt := some 40) R61_3_N rfl rfl ⟨_, rfl, .inl ⟨_, rfl, gq hb94 rfl⟩⟩ (opv_gt rfl rfl rfl rfl rfl) ?_
    refine lk (dt := some 41) R61_3_N rfl rfl rfl (ov_pickT rfl rfl rfl rfl rfl hb94 rfl) ?_
    refine lk (dt := some 42) R61_3_N rfl rfl rfl (opv_move rfl rfl rfl) ?_
    rcases Bool.eq_false_or_eq_true (decide (x109 < x49)) with hb111 | hb111
    · replace H := cnd_t H hb111
      refine lk (dt := some 43) R61_3_N rfl rfl ⟨_, rfl, .inl ⟨_, rfl, gq hb111 rfl⟩⟩ (opv_move rfl rfl rfl) ?_
      refine lk (dt := some 44) R61_3_N rfl rfl ⟨_, rfl, .inl ⟨_, rfl, gq hb111 rfl⟩⟩ (opv_move rfl rfl h0) ?_
      obtain ⟨hp112, H⟩ := H
      refine lk (dt := some 45) R61_3_N rfl rfl ⟨_, rfl, .inl ⟨_, rfl, gq hb111 rfl⟩⟩ (ov_nck rfl rfl rfl hp112) ?_
      obtain ⟨b114, i115, p113, hp116, hv117, H⟩ := H
      refine lk (dt := some 46) R61_3_N rfl rfl ⟨_, rfl, .inl ⟨_, rfl, gq hb111 rfl⟩⟩ (ov_fldA rfl rfl underlying76 rfl sz30 (by decide) rfl hp116 rfl hv117) ?_
      obtain ⟨b119, i120, p118, hp121, hv122, H⟩ := H
      refine lk (dt := some 47) R61_3_N rfl rfl ⟨_, rfl, .inl ⟨_, rfl, gq hb111 rfl⟩⟩ (ov_fldA rfl rfl underlying30 rfl sz24 (by decide) rfl hp121 rfl hv122) ?_
      obtain ⟨b123, i124, x126, hp125, hg127, H⟩ := H
      refine lk (dt := some 48) R61_3_N rfl rfl ⟨_, rfl, .inl ⟨_, rfl, gq hb111 rfl⟩⟩ (ov_ldI rfl underlying24 rfl rfl hp125 hg127) ?_
      refine lk (dt := some 49) R61_3_N rfl rfl ⟨_, rfl, .inl ⟨_, rfl, gq hb111 rfl⟩⟩ (opv_eqI rfl rfl rfl rfl rfl) ?_
      refine lk (dt := some 50) R61_3_N rfl rfl rfl (ov_pickT rfl rfl rfl rfl rfl hb111 rfl) ?_
      refine aops_nil ?_
      refine ago_condE  E61_8 rfl rfl (fun hb128 => ?_) (fun hb128 => ?_)
      · replace H := cnd_t H hb128
        refine ago_cut (fun ρ => ρ 0 = p_0 ∧ ρ 3 = .int .u64 x49 ∧ True) ⟨h0, h3, trivial⟩ (fun ρ ⟨h0, h3, _⟩ => ?_)
        refine ago_regE E61_9 (l := [0, 1, 2, 3, 4, 5]) rfl ?_
        refine lk (dt := some 51) R61_4_N rfl rfl rfl (opv_move rfl rfl h0) ?_
        refine lk (dt := some 52) R61_4_N rfl rfl rfl (opv_move rfl rfl h3) ?_
        obtain ⟨hp129, H⟩ := H
        refine lk (dt := some 53) R61_4_N rfl rfl rfl (ov_nck rfl rfl rfl hp129) ?_
        obtain ⟨b131, i132, p130, hp133, hv134, H⟩ := H
        refine lk (dt := some 54) R61_4_N rfl rfl rfl (ov_fldA rfl rfl underlying76 rfl sz30 (by decide) rfl hp133 rfl hv134) ?_
        obtain ⟨b136, i137, p135, hp138, hv139, H⟩ := H
        refine lk (dt := some 55) R61_4_N rfl rfl rfl (ov_fldA rfl rfl underlying30 rfl sz24 (by decide) rfl hp138 rfl hv139) ?_
        obtain ⟨b141, i142, aw140, hp143, hw144, ho145, ha146, H⟩ := H
        refine lk (dt := none) R61_4_N rfl rfl rfl (ov_st rfl rfl rfl rfl rfl rfl sz24 hp143 hw144 ho145 ha146) ?_
        refine aops_nil ?_
        exact ago_nilR (r := ()) (ares_0 rfl ) rfl H
      replace H := cnd_f H hb128
      refine ago_skipE E61_10 ?_
      exact ago_nilR (r := ()) (ares_0 rfl ) rfl H
    · replace H := cnd_f H hb111
      refine lk_skip (dt := some 43) R61_3_N rfl rfl ⟨_, rfl, .inl ⟨_, rfl, gq hb111 rfl⟩⟩ ?_
      refine lk_skip (dt := some 44) R61_3_N rfl rfl ⟨_, rfl, .inl ⟨_, rfl, gq hb111 rfl⟩⟩ ?_
      refine lk_skip (dt := some 45) R61_3_N rfl rfl ⟨_, rfl, .inl ⟨_, rfl, gq hb111 rfl⟩⟩ ?_
      refine lk_skip (dt := some 46) R61_3_N rfl rfl ⟨_, rfl, .inl ⟨_, rfl, gq hb111 rfl⟩⟩ ?_
      refine lk_skip (dt := some 47) R61_3_N rfl rfl ⟨_, rfl, .inl ⟨_, rfl, gq hb111 rfl⟩⟩ ?_
      refine lk_skip (dt := some 48) R61_3_N rfl rfl ⟨_, rfl, .inl ⟨_, rfl, gq hb111 rfl⟩⟩ ?_
      refine lk_skip (dt := some 49) R61_3_N rfl rfl ⟨_, rfl, .inl ⟨_, rfl, gq hb111 rfl⟩⟩ ?_
      refine lk (dt := some 50) R61_3_N rfl rfl rfl (ov_pickF rfl rfl rfl rfl rfl hb111 rfl) ?_
      refine aops_nil ?_
      refine ago_condE  E61_8 rfl rfl (fun h => ft h) (fun h => ?_)
      refine ago_skipE E61_10 ?_
      exact ago_nilR (r := ()) (ares_0 rfl ) rfl H
  · replace H := cnd_f H hb94
    refine lk_skip (dt := some 34) R61_3_N rfl rfl ⟨_, rfl, .inl ⟨_, rfl, gq hb94 rfl⟩⟩ ?_
    refine lk_skip (dt := some 35) R61_3_N rfl rfl ⟨_, rfl, .inl ⟨_, rfl, gq hb94 rfl⟩⟩ ?_
    refine lk_skip (dt := some 36) R61_3_N rfl rfl ⟨_, rfl, .inl ⟨_, rfl, gq hb94 rfl⟩⟩ ?_
    refine lk_skip (dt := some 37) R61_3_N rfl rfl ⟨_, rfl, .inl ⟨_, rfl, gq hb94 rfl⟩⟩ ?_
    refine lk_skip (dt := some 38) R61_3_N rfl rfl ⟨_, rfl, .inl ⟨_, rfl, gq hb94 rfl⟩⟩ ?_
    refine lk_skip (dt := some 39) R61_3_N rfl rfl ⟨_, rfl, .inl ⟨_, rfl, gq hb94 rfl⟩⟩ ?_
    refine lk_skip (dt := some 40) R61_3_N rfl rfl ⟨_, rfl, .inl ⟨_, rfl, gq hb94 rfl⟩⟩ ?_
    refine lk (dt := some 41) R61_3_N rfl rfl rfl (ov_pickF rfl rfl rfl rfl rfl hb94 rfl) ?_
    refine lk (dt := some 42) R61_3_N rfl rfl rfl (opv_move rfl rfl rfl) ?_
    refine lk_skip (dt := some 43) R61_3_N rfl rfl ⟨_, rfl, .inl ⟨_, rfl, gq rfl rfl⟩⟩ ?_
    refine lk_skip (dt := some 44) R61_3_N rfl rfl ⟨_, rfl, .inl ⟨_, rfl, gq rfl rfl⟩⟩ ?_
    refine lk_skip (dt := some 45) R61_3_N rfl rfl ⟨_, rfl, .inl ⟨_, rfl, gq rfl rfl⟩⟩ ?_
    refine lk_skip (dt := some 46) R61_3_N rfl rfl ⟨_, rfl, .inl ⟨_, rfl, gq rfl rfl⟩⟩ ?_
    refine lk_skip (dt := some 47) R61_3_N rfl rfl ⟨_, rfl, .inl ⟨_, rfl, gq rfl rfl⟩⟩ ?_
    refine lk_skip (dt := some 48) R61_3_N rfl rfl ⟨_, rfl, .inl ⟨_, rfl, gq rfl rfl⟩⟩ ?_
    refine lk_skip (dt := some 49) R61_3_N rfl rfl ⟨_, rfl, .inl ⟨_, rfl, gq rfl rfl⟩⟩ ?_
    refine lk (dt := some 50) R61_3_N rfl rfl rfl (ov_pickF rfl rfl rfl rfl rfl rfl rfl) ?_
    refine aops_nil ?_
    refine ago_condE  E61_8 rfl rfl (fun h => ft h) (fun h => ?_)
    refine ago_skipE E61_10 ?_
    exact ago_nilR (r := ()) (ares_0 rfl ) rfl H
theorem F61_ok {Q : Unit → AW → Prop} {E : List PanicEntry → AW → Prop} (p_0 : Value) (aw : AW) (H : S61_0 Q E p_0 aw) : CallP prog 61 [p_0] aw sh61 Q E :=
  callP_of func61 C61_is rfl (Nat.le_of_ble_eq_true rfl) (S61_0_ok Q E _ p_0 aw rfl H)
def C31_0 : Code := bodyOf f31
theorem C31_is : f31.body = some C31_0 := by kernel_rfl
def C31_1 : Code := cl C31_0
def R31_0 : Array Oper := regOps C31_1
def C31_2 : Code := cr C31_0
def C31_3 : Code := cl C31_2
def R31_1 : Array Oper := regOps C31_3
def C31_4 : Code := cr C31_2
def C31_5 : Code := cl C31_4
def R31_2 : Array Oper := regOps C31_5
def C31_6 : Code := cr C31_4
def C31_7 : Code := cl C31_6
def R31_3 : Array Oper := regOps C31_7
def C31_8 : Code := cr C31_6
def C31_9 : Code := cl C31_8
def R31_4 : Array Oper := regOps C31_9
def C31_10 : Code := cr C31_8
def C31_11 : Code := cl C31_10
def R31_5 : Array Oper := regOps C31_11
def C31_12 : Code := cr C31_10
def R31_6 : Array Oper := regOps C31_12
theorem R31_0_N : dstsOk 61 R31_0 = true := by decide +kernel
theorem E31_1 : C31_1 = .region 0 R31_0 false := rfl
theorem R31_1_N : dstsOk 61 R31_1 = true := by decide +kernel
theorem E31_3 : C31_3 = .region 1 R31_1 false := rfl
theorem R31_2_N : dstsOk 61 R31_2 = true := by decide +kernel
theorem E31_5 : C31_5 = .region 2 R31_2 false := rfl
theorem R31_3_N : dstsOk 61 R31_3 = true := by decide +kernel
theorem R31_3_O : linOk R31_3 [0, 1, 2, 3, 4, 5, 6, 7, 8, 9, 10, 11, 12, 13, 14, 15, 16, 17, 18, 19] [(20, [0, 1, 2, 3, 4, 5, 6, 7, 8, 9, 10, 11, 12, 13, 14, 15, 16, 17, 18], []), (21, [0], [22, 23, 24]), (25, [], [])] = true := by decide +kernel
theorem E31_7 : C31_7 = .region 3 R31_3 true := rfl
theorem R31_4_N : dstsOk 61 R31_4 = true := by decide +kernel
theorem R31_4_O : linOk R31_4 [0, 1, 2, 3, 4, 5, 6, 7, 8, 9, 10, 11, 12, 13] [(14, [0, 1, 2, 3, 4, 5, 6, 7, 8, 9], [15]), (16, [], [])] = true := by decide +kernel
theorem E31_9 : C31_9 = .region 4 R31_4 true := rfl
theorem R31_5_N : dstsOk 61 R31_5 = true := by decide +kernel
theorem E31_11 : C31_11 = .region 5 R31_5 false := rfl
theorem R31_6_N : dstsOk 61 R31_6 = true := by decide +kernel
theorem E31_12 : C31_12 = .region 6 R31_6 false := rfl
theorem E31_10 : C31_10 = .seq C31_11 C31_12 := rfl
theorem E31_8 : C31_8 = .seq C31_9 C31_10 := rfl
theorem E31_6 : C31_6 = .seq C31_7 C31_8 := rfl
theorem E31_4 : C31_4 = .seq C31_5 C31_6 := rfl
theorem E31_2 : C31_2 = .seq C31_3 C31_4 := rfl
theorem E31_0 : C31_0 = .seq C31_1 C31_2 := rfl
def S31_0 (Q : Unit → AW → Prop) (E : List PanicEntry → AW → Prop)  (p_0 : Value) (x_1_0 : Int) (x_1_1 : Int) (x_1_2 : Int) (x_1_3 : Value) (aw : AW) : Prop :=
  alc aw [.int .u64 x_1_0, .int .u64 x_1_1, .int .u64 x_1_2, x_1_3] 40 0 fun p1 aw2 =>
  nck p_0 (fldA p_0 0 fun p6 =>
  fldA p6 3 fun p11 =>
  ldI .u64 aw2 p11 fun x19 =>
  fldA p1 0 fun p21 =>
  st aw2 p21 [.int .u64 x19] fun aw26 =>
  fldA p1 3 fun p33 =>
  ldV aw26 p33 fun x41 =>
  CallP prog 57 [x41] aw26 sh57 (fun r43 aw44 =>
  fldA p1 3 fun p45 =>
  st aw44 p45 [r43] fun aw50 =>
  nck p_0 (fldA p_0 0 fun p58 =>
  fldA p58 8 fun p63 =>
  ldV aw50 p63 fun x71 =>
  nck p_0 (fldA p_0 0 fun p74 =>
  fldA p74 8 fun p79 =>
  ldV aw50 p79 fun x87 =>
  slen x87 fun n89 =>
  nck p_0 (fldA p_0 0 fun p96 =>
  fldA p96 8 fun p101 =>
  ldV aw50 p101 fun x109 =>
  slen x109 fun n111 =>
  cut3V 4 x71 0 n89 n111 fun v117 =>
  ptr p1 fun b119 i120 =>
  gI .u64 aw50 b119 i120 fun c122 =>
  gI .u64 aw50 b119 (i120 + 1) fun c123 =>
  gI .u64 aw50 b119 (i120 + 2) fun c124 =>
  gV aw50 b119 (i120 + 3) fun c125 =>
  alcS aw50 [.int .u64 c122, .int .u64 c123, .int .u64 c124, c125] 40 4 1 fun p130 aw131 =>
  again1 aw131 p63 (x71) ∧ again1 aw131 p79 (x87) ∧ again1 aw131 p101 (x109) ∧ app aw131 40 4 48 v117 p130 fun v134 aw135 =>
  nck p_0 (fldA p_0 0 fun p138 =>
  fldA p138 8 fun p143 =>
  st aw135 p143 [v134] fun aw148 =>
  nck p_0 (fldA p_0 0 fun p156 =>
  fldA p156 15 fun p161 =>
  ldV aw148 p161 fun x169 =>
  nck p_0 (fldA p_0 0 fun p172 =>
  fldA p172 1 fun p177 =>
  ldI .i64 aw148 p177 fun x185 =>
  nck p_0 (fldA p_0 0 fun p188 =>
  ptr p188 fun b193 i194 =>
  gI .i64 aw148 b193 i194 fun c196 =>
  gI .i64 aw148 b193 (i194 + 1) fun c197 =>
  gI .i64 aw148 b193 (i194 + 2) fun c198 =>
  gI .u64 aw148 b193 (i194 + 3) fun c199 =>
  gI .i64 aw148 b193 (i194 + 4) fun c200 =>
  gI .u64 aw148 b193 (i194 + 5) fun c201 =>
  gI .u64 aw148 b193 (i194 + 6) fun c202 =>
  gV aw148 b193 (i194 + 7) fun c203 =>
  gV aw148 b193 (i194 + 8) fun c204 =>
  gI .u64 aw148 b193 (i194 + 9) fun c205 =>
  gI .u8 aw148 b193 (i194 + 10) fun c206 =>
  gI .i64 aw148 b193 (i194 + 11) fun c207 =>
  gI .i64 aw148 b193 (i194 + 12) fun c208 =>
  gV aw148 b193 (i194 + 13) fun c209 =>
  gV aw148 b193 (i194 + 14) fun c210 =>
  gV aw148 b193 (i194 + 15) fun c211 =>
  CallP prog 22 [.agg #[.int .i64 c196, .int .i64 c197, .int .i64 c198, .int .u64 c199, .int .i64 c200, .int .u64 c201, .int .u64 c202, c203, c204, .int .u64 c205, .int .u8 c206, .int .i64 c207, .int .i64 c208, c209, c210, c211]] aw148 sh22 (fun r228 aw229 =>
  again1 aw229 p161 (x169) ∧ again1 aw229 p177 (.int .i64 x185) ∧ ixS x169 x185 1 fun p230 =>
  st aw229 p230 [.int .u64 r228] fun aw239 =>
  CallP prog 61 [p_0] aw239 sh61 (fun r246 aw247 =>
  CallP prog 24 [p_0, (.func (.func 25) #[p_0] #[])] aw247 sh24 (fun r248 aw249 =>
  Q () aw249) E) E) E)))))))) E)
theorem S31_0_ok (Q : Unit → AW → Prop) (E : List PanicEntry → AW → Prop)  (ρ : Env) (p_0 : Value) (x_1_0 : Int) (x_1_1 : Int) (x_1_2 : Int) (x_1_3 : Value) (aw : AW) (h0 : ρ 0 = p_0) (h1 : ρ 1 = .agg #[.int .u64 x_1_0, .int .u64 x_1_1, .int .u64 x_1_2, x_1_3]) (H : S31_0 Q E  p_0 x_1_0 x_1_1 x_1_2 x_1_3 aw) :
    AGo prog 61 [.code C31_0] ρ [] aw (RR prog f31 61 sh31 Q E) := by
  unfold S31_0 at H
  refine ago_seqE E31_0 ?_
  refine ago_regE E31_1 (l := [0]) rfl ?_
  obtain ⟨p1, aw2, hp3, ha4, H⟩ := H
  refine lk (dt := some 3) R31_0_N rfl rfl rfl (ov_box rfl rfl h1 rfl hp3 ha4) ?_
  refine aops_nil ?_
  refine ago_seqE E31_2 ?_
  refine ago_regE E31_3 (l := [0, 1, 2, 3, 4, 5, 6]) rfl ?_
  refine lk (dt := some 4) R31_1_N rfl rfl rfl (opv_move rfl rfl h0) ?_
  obtain ⟨hp5, H⟩ := H
  refine lk (dt := some 5) R31_1_N rfl rfl rfl (ov_nck rfl rfl rfl hp5) ?_
  obtain ⟨b7, i8, p6, hp9, hv10, H⟩ := H
  refine lk (dt := some 6) R31_1_N rfl rfl rfl (ov_fldA rfl rfl underlying76 rfl sz30 (by decide) rfl hp9 rfl hv10) ?_
  obtain ⟨b12, i13, p11, hp14, hv15, H⟩ := H
  refine lk (dt := some 7) R31_1_N rfl rfl rfl (ov_fldA rfl rfl underlying30 rfl sz24 (by decide) rfl hp14 rfl hv15) ?_
  obtain ⟨b16, i17, x19, hp18, hg20, H⟩ := H
  refine lk (dt := some 8) R31_1_N rfl rfl rfl (ov_ldI rfl underlying24 rfl rfl hp18 hg20) ?_
  obtain ⟨b22, i23, p21, hp24, hv25, H⟩ := H
  refine lk (dt := some 9) R31_1_N rfl rfl rfl (ov_fldA rfl rfl underlying40 rfl sz24 (by decide) rfl hp24 rfl hv25) ?_
  obtain ⟨b27, i28, aw26, hp29, hw30, ho31, ha32, H⟩ := H
  refine lk (dt := none) R31_1_N rfl rfl rfl (ov_st rfl rfl rfl rfl rfl rfl sz24 hp29 hw30 ho31 ha32) ?_
  refine aops_nil ?_
  refine ago_seqE E31_4 ?_
  refine ago_regE E31_5 (l := [0, 1, 2, 3, 4]) rfl ?_
  obtain ⟨b34, i35, p33, hp36, hv37, H⟩ := H
  refine lk (dt := some 10) R31_2_N rfl rfl rfl (ov_fldA rfl rfl underlying40 rfl sz25 (by decide) rfl hp36 rfl hv37) ?_
  obtain ⟨b38, i39, x41, hp40, hg42, H⟩ := H
  refine lk (dt := some 11) R31_2_N rfl rfl rfl (ov_ldV rfl underlying25 rfl rfl rfl hp40 hg42) ?_
  refine lk_call (dt := some 12) R31_2_N rfl rfl rfl (opc_of rfl rfl is57 (ma_cons rfl rfl)) H (fun _ _ h => ⟨rfl, h⟩) fun r43 aw44 H => ?_
  obtain ⟨b46, i47, p45, hp48, hv49, H⟩ := H
  refine lk (dt := some 13) R31_2_N rfl rfl rfl (ov_fldA rfl rfl underlying40 rfl sz25 (by decide) rfl hp48 rfl hv49) ?_
  obtain ⟨b51, i52, aw50, hp53, hw54, ho55, ha56, H⟩ := H
  refine lk (dt := none) R31_2_N rfl rfl rfl (ov_st rfl rfl rfl rfl rfl (cells_all ho55) sz25 hp53 hw54 ho55 ha56) ?_
  refine aops_nil ?_
  refine ago_seqE E31_6 ?_
  refine ago_cut (fun ρ => ρ 0 = p_0 ∧ ρ 3 = p1 ∧ True) ⟨h0, rfl, trivial⟩ (fun ρ ⟨h0, h3, _⟩ => ?_)
  obtain ⟨hp57, H⟩ := H
  obtain ⟨b59, i60, p58, hp61, hv62, H⟩ := H
  obtain ⟨b64, i65, p63, hp66, hv67, H⟩ := H
  obtain ⟨b68, i69, x71, hp70, hg72, H⟩ := H
  obtain ⟨hp73, H⟩ := H
  obtain ⟨b75, i76, p74, hp77, hv78, H⟩ := H
  obtain ⟨b80, i81, p79, hp82, hv83, H⟩ := H
  obtain ⟨b84, i85, x87, hp86, hg88, H⟩ := H
  obtain ⟨q90, l91, c92, n89, hv93, hn94, H⟩ := H
  obtain ⟨hp95, H⟩ := H
  obtain ⟨b97, i98, p96, hp99, hv100, H⟩ := H
  obtain ⟨b102, i103, p101, hp104, hv105, H⟩ := H
  obtain ⟨b106, i107, x109, hp108, hg110, H⟩ := H
  obtain ⟨q112, l113, c114, n111, hv115, hn116, H⟩ := H
  obtain ⟨v117, hq118, H⟩ := H
  obtain ⟨b119, i120, hp121, c122, hg126, c123, hg127, c124, hg128, c125, hg129, H⟩ := H
  refine ago_drawH (p := [0, 1, 2, 3, 4, 5, 6, 7, 8, 9, 10, 11, 12, 13, 14, 15, 16, 17, 18, 19]) (tl := [(20, [0, 1, 2, 3, 4, 5, 6, 7, 8, 9, 10, 11, 12, 13, 14, 15, 16, 17, 18], []), (21, [0], [22, 23, 24]), (25, [], [])]) (hv := [(0, p_0), (1, p_0), (2, p_0), (3, p58), (4, p63), (5, x71), (6, p_0), (7, p_0), (8, p74), (9, p79), (10, x87), (11, Value.int .i64 n89), (12, p_0), (13, p_0), (14, p96), (15, p101), (16, x109), (17, Value.int .i64 n111), (18, v117), (19, Value.agg #[.int .u64 c122, .int .u64 c123, .int .u64 c124, c125])]) E31_7 mixed R31_3_N R31_3_O rfl (pv_cons rfl (pv_cons rfl (pv_cons rfl (pv_cons rfl (pv_cons rfl (pv_cons rfl (pv_cons rfl (pv_cons rfl (pv_cons rfl (pv_cons rfl (pv_cons rfl (pv_cons rfl (pv_cons rfl (pv_cons rfl (pv_cons rfl (pv_cons rfl (pv_cons rfl (pv_cons rfl (pv_cons rfl (pv_cons rfl (pv_nil _)))))))))))))))))))))
    (ffc (d := 14) (v := p_0) (hd_v rfl fun ρ hρ => ⟨rfl, opv_move rfl rfl ((hρ 0 (lmem rfl)).trans h0)⟩) rfl rfl
    (ffc (d := 15) (v := p_0) (hd_v rfl fun ρ hρ => ⟨rfl, opv_move rfl rfl ((hρ 0 (lmem rfl)).trans h0)⟩) rfl rfl
    (ffc (d := 16) (v := p_0) (hd_v rfl fun ρ hρ => ⟨rfl, ov_nck rfl rfl ((hρ 15 (lmem rfl)).trans rfl) hp57⟩) rfl rfl
    (ffc (d := 17) (v := p58) (hd_v rfl fun ρ hρ => ⟨rfl, ov_fldA rfl rfl underlying76 rfl sz30 (by decide) ((hρ 16 (lmem rfl)).trans rfl) hp61 rfl hv62⟩) rfl rfl
    (ffc (d := 18) (v := p63) (hd_v rfl fun ρ hρ => ⟨rfl, ov_fldA rfl rfl underlying30 rfl sz26 (by decide) ((hρ 17 (lmem rfl)).trans rfl) hp66 rfl hv67⟩) rfl rfl
    (ffc (d := 19) (v := x71) (hd_v rfl fun ρ hρ => ⟨rfl, ov_ldV rfl underlying26 rfl rfl ((hρ 18 (lmem rfl)).trans rfl) hp70 hg72⟩) rfl rfl
    (ffc (d := 20) (v := p_0) (hd_v rfl fun ρ hρ => ⟨rfl, opv_move rfl rfl ((hρ 0 (lmem rfl)).trans h0)⟩) rfl rfl
    (ffc (d := 21) (v := p_0) (hd_v rfl fun ρ hρ => ⟨rfl, ov_nck rfl rfl ((hρ 20 (lmem rfl)).trans rfl) hp73⟩) rfl rfl
    (ffc (d := 22) (v := p74) (hd_v rfl fun ρ hρ => ⟨rfl, ov_fldA rfl rfl underlying76 rfl sz30 (by decide) ((hρ 21 (lmem rfl)).trans rfl) hp77 rfl hv78⟩) rfl rfl
    (ffc (d := 23) (v := p79) (hd_v rfl fun ρ hρ => ⟨rfl, ov_fldA rfl rfl underlying30 rfl sz26 (by decide) ((hρ 22 (lmem rfl)).trans rfl) hp82 rfl hv83⟩) rfl rfl
    (ffc (d := 24) (v := x87) (hd_v rfl fun ρ hρ => ⟨rfl, ov_ldV rfl underlying26 rfl rfl ((hρ 23 (lmem rfl)).trans rfl) hp86 hg88⟩) rfl rfl
    (ffc (d := 25) (v := .int .i64 n89) (hd_v rfl fun ρ hρ => ⟨rfl, ov_len rfl rfl rfl underlying26 ((hρ 24 (lmem rfl)).trans rfl) hv93 hn94⟩) rfl rfl
    (ffc (d := 26) (v := p_0) (hd_v rfl fun ρ hρ => ⟨rfl, opv_move rfl rfl ((hρ 0 (lmem rfl)).trans h0)⟩) rfl rfl
    (ffc (d := 27) (v := p_0) (hd_v rfl fun ρ hρ => ⟨rfl, ov_nck rfl rfl ((hρ 26 (lmem rfl)).trans rfl) hp95⟩) rfl rfl
    (ffc (d := 28) (v := p96) (hd_v rfl fun ρ hρ => ⟨rfl, ov_fldA rfl rfl underlying76 rfl sz30 (by decide) ((hρ 27 (lmem rfl)).trans rfl) hp99 rfl hv100⟩) rfl rfl
    (ffc (d := 29) (v := p101) (hd_v rfl fun ρ hρ => ⟨rfl, ov_fldA rfl rfl underlying30 rfl sz26 (by decide) ((hρ 28 (lmem rfl)).trans rfl) hp104 rfl hv105⟩) rfl rfl
    (ffc (d := 30) (v := x109) (hd_v rfl fun ρ hρ => ⟨rfl, ov_ldV rfl underlying26 rfl rfl ((hρ 29 (lmem rfl)).trans rfl) hp108 hg110⟩) rfl rfl
    (ffc (d := 31) (v := .int .i64 n111) (hd_v rfl fun ρ hρ => ⟨rfl, ov_len rfl rfl rfl underlying26 ((hρ 30 (lmem rfl)).trans rfl) hv115 hn116⟩) rfl rfl
    (ffc (d := 32) (v := v117) (hd_v rfl fun ρ hρ => ⟨rfl, ov_cut3 rfl rfl underlying26 sz40 ((hρ 19 (lmem rfl)).trans rfl) (bndN _ _ _) (bndS ((hρ 25 (lmem rfl)).trans rfl)) (bndS ((hρ 31 (lmem rfl)).trans rfl)) hq118⟩) rfl rfl
    (ffc (d := 33) (v := .agg #[.int .u64 c122, .int .u64 c123, .int .u64 c124, c125]) (hd_v rfl fun ρ hρ => ⟨rfl, ov_ldN rfl underlying40 rfl sz40 rfl ((hρ 3 (lmem rfl)).trans h3) hp121 (getN_cons hg126 (getN_cons hg127 (getN_cons hg128 (getN_cons hg129 getN_nil))))⟩) rfl rfl
    ffn)))))))))))))))))))) ?_
  obtain ⟨p130, aw131, hp132, ha133, H⟩ := H
  refine lt_val (dt := some 34) (v := p130) rfl rfl (fun ρ hρ => ⟨rfl, ov_bsA (r := [.int .u64 c122, .int .u64 c123, .int .u64 c124, c125]) (vs := [.agg #[.int .u64 c122, .int .u64 c123, .int .u64 c124, c125]]) rfl rfl underlying26 sz40 z40 rfl rfl rfl rfl rfl (mp_cons ((hρ 33 (lmem rfl)).trans rfl) rfl) (.cons (v := .agg #[.int .u64 c122, .int .u64 c123, .int .u64 c124, c125]) (xs := [.int .u64 c122, .int .u64 c123, .int .u64 c124, c125]) (r := []) rfl rfl .nil) hp132 ha133⟩) ?_
  obtain ⟨hg72, H⟩ := H
  replace hg72 := hg72 _ _ hp70
  obtain ⟨hg88, H⟩ := H
  replace hg88 := hg88 _ _ hp86
  obtain ⟨hg110, H⟩ := H
  replace hg110 := hg110 _ _ hp108
  refine lt_next (l := [0, 1, 2, 3, 4, 5, 6, 7, 8, 9, 10, 11, 12, 13, 14, 15, 16, 17, 18]) (hv := []) rfl rfl (pv_nil _)
    (ffc (d := 14) (v := p_0) (hd_v rfl fun ρ hρ => ⟨rfl, opv_move rfl rfl ((hρ 0 (lmem rfl)).trans h0)⟩) rfl rfl
    (ffc (d := 15) (v := p_0) (hd_v rfl fun ρ hρ => ⟨rfl, opv_move rfl rfl ((hρ 0 (lmem rfl)).trans h0)⟩) rfl rfl
    (ffc (d := 16) (v := p_0) (hd_v rfl fun ρ hρ => ⟨rfl, ov_nck rfl rfl ((hρ 15 (lmem rfl)).trans rfl) hp57⟩) rfl rfl
    (ffc (d := 17) (v := p58) (hd_v rfl fun ρ hρ => ⟨rfl, ov_fldA rfl rfl underlying76 rfl sz30 (by decide) ((hρ 16 (lmem rfl)).trans rfl) hp61 rfl hv62⟩) rfl rfl
    (ffc (d := 18) (v := p63) (hd_v rfl fun ρ hρ => ⟨rfl, ov_fldA rfl rfl underlying30 rfl sz26 (by decide) ((hρ 17 (lmem rfl)).trans rfl) hp66 rfl hv67⟩) rfl rfl
    (ffc (d := 19) (v := x71) (hd_v rfl fun ρ hρ => ⟨rfl, ov_ldV rfl underlying26 rfl rfl ((hρ 18 (lmem rfl)).trans rfl) hp70 hg72⟩) rfl rfl
    (ffc (d := 20) (v := p_0) (hd_v rfl fun ρ hρ => ⟨rfl, opv_move rfl rfl ((hρ 0 (lmem rfl)).trans h0)⟩) rfl rfl
    (ffc (d := 21) (v := p_0) (hd_v rfl fun ρ hρ => ⟨rfl, ov_nck rfl rfl ((hρ 20 (lmem rfl)).trans rfl) hp73⟩) rfl rfl
    (ffc (d := 22) (v := p74) (hd_v rfl fun ρ hρ => ⟨rfl, ov_fldA rfl rfl underlying76 rfl sz30 (by decide) ((hρ 21 (lmem rfl)).trans rfl) hp77 rfl hv78⟩) rfl rfl
    (ffc (d := 23) (v := p79) (hd_v rfl fun ρ hρ => ⟨rfl, ov_fldA rfl rfl underlying30 rfl sz26 (by decide) ((hρ 22 (lmem rfl)).trans rfl) hp82 rfl hv83⟩) rfl rfl
    (ffc (d := 24) (v := x87) (hd_v rfl fun ρ hρ => ⟨rfl, ov_ldV rfl underlying26 rfl rfl ((hρ 23 (lmem rfl)).trans rfl) hp86 hg88⟩) rfl rfl
    (ffc (d := 25) (v := .int .i64 n89) (hd_v rfl fun ρ hρ => ⟨rfl, ov_len rfl rfl rfl underlying26 ((hρ 24 (lmem rfl)).trans rfl) hv93 hn94⟩) rfl rfl
    (ffc (d := 26) (v := p_0) (hd_v rfl fun ρ hρ => ⟨rfl, opv_move rfl rfl ((hρ 0 (lmem rfl)).trans h0)⟩) rfl rfl
    (ffc (d := 27) (v := p_0) (hd_v rfl fun ρ hρ => ⟨rfl, ov_nck rfl rfl ((hρ 26 (lmem rfl)).trans rfl) hp95⟩) rfl rfl
    (ffc (d := 28) (v := p96) (hd_v rfl fun ρ hρ => ⟨rfl, ov_fldA rfl rfl underlying76 rfl sz30 (by decide) ((hρ 27 (lmem rfl)).trans rfl) hp99 rfl hv100⟩) rfl rfl
    (ffc (d := 29) (v := p101) (hd_v rfl fun ρ hρ => ⟨rfl, ov_fldA rfl rfl underlying30 rfl sz26 (by decide) ((hρ 28 (lmem rfl)).trans rfl) hp104 rfl hv105⟩) rfl rfl
    (ffc (d := 30) (v := x109) (hd_v rfl fun ρ hρ => ⟨rfl, ov_ldV rfl underlying26 rfl rfl ((hρ 29 (lmem rfl)).trans rfl) hp108 hg110⟩) rfl rfl
    (ffc (d := 31) (v := .int .i64 n111) (hd_v rfl fun ρ hρ => ⟨rfl, ov_len rfl rfl rfl underlying26 ((hρ 30 (lmem rfl)).trans rfl) hv115 hn116⟩) rfl rfl
    (ffc (d := 32) (v := v117) (hd_v rfl fun ρ hρ => ⟨rfl, ov_cut3 rfl rfl underlying26 sz40 ((hρ 19 (lmem rfl)).trans rfl) (bndN _ _ _) (bndS ((hρ 25 (lmem rfl)).trans rfl)) (bndS ((hρ 31 (lmem rfl)).trans rfl)) hq118⟩) rfl rfl
    ffn))))))))))))))))))) ?_
  obtain ⟨v134, aw135, hq136, H⟩ := H
  refine lt_val (dt := some 35) (v := v134) rfl rfl (fun ρ hρ => ⟨rfl, ov_app rfl rfl rfl rfl underlying26 sz40 by40 underlying26 rfl z40 rfl (by decide) (by decide) ((hρ 32 (lmem rfl)).trans rfl) ((hρ 34 (lmem rfl)).trans rfl) hq136⟩) ?_
  obtain ⟨hp137, H⟩ := H
  obtain ⟨b139, i140, p138, hp141, hv142, H⟩ := H
  obtain ⟨b144, i145, p143, hp146, hv147, H⟩ := H
  refine lt_next (l := [0, 22, 23, 24]) (hv := [(22, p_0), (23, p138), (24, p143)]) rfl rfl (pv_cons rfl (pv_cons rfl (pv_cons rfl (pv_nil _))))
    (ffc (d := 14) (v := p_0) (hd_v rfl fun ρ hρ => ⟨rfl, opv_move rfl rfl ((hρ 0 (lmem rfl)).trans h0)⟩) rfl rfl
    (ffc (d := 36) (v := p_0) (hd_v rfl fun ρ hρ => ⟨rfl, ov_nck rfl rfl ((hρ 14 (lmem rfl)).trans rfl) hp137⟩) rfl rfl
    (ffc (d := 37) (v := p138) (hd_v rfl fun ρ hρ => ⟨rfl, ov_fldA rfl rfl underlying76 rfl sz30 (by decide) ((hρ 36 (lmem rfl)).trans rfl) hp141 rfl hv142⟩) rfl rfl
    (ffc (d := 38) (v := p143) (hd_v rfl fun ρ hρ => ⟨rfl, ov_fldA rfl rfl underlying30 rfl sz26 (by decide) ((hρ 37 (lmem rfl)).trans rfl) hp146 rfl hv147⟩) rfl rfl
    ffn)))) ?_
  obtain ⟨b149, i150, aw148, hp151, hw152, ho153, ha154, H⟩ := H
  refine lt_val (dt := none) (v := undef) rfl rfl (fun ρ hρ => ⟨rfl, ov_st rfl rfl rfl ((hρ 38 (lmem rfl)).trans rfl) ((hρ 35 (lmem rfl)).trans rfl) (cells_all ho153) sz26 hp151 hw152 ho153 ha154⟩) ?_
  refine lt_next (l := []) (hv := []) rfl rfl (pv_nil _)
    ffn ?_
  refine lt_end ?_
  refine ago_seqE E31_8 ?_
  refine ago_cut (fun ρ => ρ 0 = p_0 ∧ True) ⟨h0, trivial⟩ (fun ρ ⟨h0, _⟩ => ?_)
  obtain ⟨hp155, H⟩ := H
  obtain ⟨b157, i158, p156, hp159, hv160, H⟩ := H
  obtain ⟨b162, i163, p161, hp164, hv165, H⟩ := H
  obtain ⟨b166, i167, x169, hp168, hg170, H⟩ := H
  obtain ⟨hp171, H⟩ := H
  obtain ⟨b173, i174, p172, hp175, hv176, H⟩ := H
  obtain ⟨b178, i179, p177, hp180, hv181, H⟩ := H
  obtain ⟨b182, i183, x185, hp184, hg186, H⟩ := H
  obtain ⟨hp187, H⟩ := H
  obtain ⟨b189, i190, p188, hp191, hv192, H⟩ := H
  obtain ⟨b193, i194, hp195, c196, hg212, c197, hg213, c198, hg214, c199, hg215, c200, hg216, c201, hg217, c202, hg218, c203, hg219, c204, hg220, c205, hg221, c206, hg222, c207, hg223, c208, hg224, c209, hg225, c210, hg226, c211, hg227, H⟩ := H
  refine ago_drawH (p := [0, 1, 2, 3, 4, 5, 6, 7, 8, 9, 10, 11, 12, 13]) (tl := [(14, [0, 1, 2, 3, 4, 5, 6, 7, 8, 9], [15]), (16, [], [])]) (hv := [(0, p_0), (1, p_0), (2, p156), (3, p161), (4, x169), (5, p_0), (6, p_0), (7, p172), (8, p177), (9, Value.int .i64 x185), (10, p_0), (11, p_0), (12, p188), (13, Value.agg #[.int .i64 c196, .int .i64 c197, .int .i64 c198, .int .u64 c199, .int .i64 c200, .int .u64 c201, .int .u64 c202, c203, c204, .int .u64 c205, .int .u8 c206, .int .i64 c207, .int .i64 c208, c209, c210, c211])]) E31_9 mixed R31_4_N R31_4_O rfl (pv_cons rfl (pv_cons rfl (pv_cons rfl (pv_cons rfl (pv_cons rfl (pv_cons rfl (pv_cons rfl (pv_cons rfl (pv_cons rfl (pv_cons rfl (pv_cons rfl (pv_cons rfl (pv_cons rfl (pv_cons rfl (pv_nil _)))))))))))))))
    (ffc (d := 39) (v := p_0) (hd_v rfl fun ρ hρ => ⟨rfl, opv_move rfl rfl ((hρ 0 (lmem rfl)).trans h0)⟩) rfl rfl
    (ffc (d := 40) (v := p_0) (hd_v rfl fun ρ hρ => ⟨rfl, ov_nck rfl rfl ((hρ 39 (lmem rfl)).trans rfl) hp155⟩) rfl rfl
    (ffc (d := 41) (v := p156) (hd_v rfl fun ρ hρ => ⟨rfl, ov_fldA rfl rfl underlying76 rfl sz30 (by decide) ((hρ 40 (lmem rfl)).trans rfl) hp159 rfl hv160⟩) rfl rfl
    (ffc (d := 42) (v := p161) (hd_v rfl fun ρ hρ => ⟨rfl, ov_fldA rfl rfl underlying30 rfl sz28 (by decide) ((hρ 41 (lmem rfl)).trans rfl) hp164 rfl hv165⟩) rfl rfl
    (ffc (d := 43) (v := x169) (hd_v rfl fun ρ hρ => ⟨rfl, ov_ldV rfl underlying28 rfl rfl ((hρ 42 (lmem rfl)).trans rfl) hp168 hg170⟩) rfl rfl
    (ffc (d := 44) (v := p_0) (hd_v rfl fun ρ hρ => ⟨rfl, opv_move rfl rfl ((hρ 0 (lmem rfl)).trans h0)⟩) rfl rfl
    (ffc (d := 45) (v := p_0) (hd_v rfl fun ρ hρ => ⟨rfl, ov_nck rfl rfl ((hρ 44 (lmem rfl)).trans rfl) hp171⟩) rfl rfl
    (ffc (d := 46) (v := p172) (hd_v rfl fun ρ hρ => ⟨rfl, ov_fldA rfl rfl underlying76 rfl sz30 (by decide) ((hρ 45 (lmem rfl)).trans rfl) hp175 rfl hv176⟩) rfl rfl
    (ffc (d := 47) (v := p177) (hd_v rfl fun ρ hρ => ⟨rfl, ov_fldA rfl rfl underlying30 rfl sz3 (by decide) ((hρ 46 (lmem rfl)).trans rfl) hp180 rfl hv181⟩) rfl rfl
    (ffc (d := 48) (v := .int .i64 x185) (hd_v rfl fun ρ hρ => ⟨rfl, ov_ldI rfl underlying3 rfl ((hρ 47 (lmem rfl)).trans rfl) hp184 hg186⟩) rfl rfl
    (ffc (d := 49) (v := p_0) (hd_v rfl fun ρ hρ => ⟨rfl, opv_move rfl rfl ((hρ 0 (lmem rfl)).trans h0)⟩) rfl rfl
    (ffc (d := 50) (v := p_0) (hd_v rfl fun ρ hρ => ⟨rfl, ov_nck rfl rfl ((hρ 49 (lmem rfl)).trans rfl) hp187⟩) rfl rfl
    (ffc (d := 51) (v := p188) (hd_v rfl fun ρ hρ => ⟨rfl, ov_fldA rfl rfl underlying76 rfl sz30 (by decide) ((hρ 50 (lmem rfl)).trans rfl) hp191 rfl hv192⟩) rfl rfl
    (ffc (d := 52) (v := .agg #[.int .i64 c196, .int .i64 c197, .int .i64 c198, .int .u64 c199, .int .i64 c200, .int .u64 c201, .int .u64 c202, c203, c204, .int .u64 c205, .int .u8 c206, .int .i64 c207, .int .i64 c208, c209, c210, c211]) (hd_v rfl fun ρ hρ => ⟨rfl, ov_ldN rfl underlying30 rfl sz30 rfl ((hρ 51 (lmem rfl)).trans rfl) hp195 (getN_cons hg212 (getN_cons hg213 (getN_cons hg214 (getN_cons hg215 (getN_cons hg216 (getN_cons hg217 (getN_cons hg218 (getN_cons hg219 (getN_cons hg220 (getN_cons hg221 (getN_cons hg222 (getN_cons hg223 (getN_cons hg224 (getN_cons hg225 (getN_cons hg226 (getN_cons hg227 getN_nil))))))))))))))))⟩) rfl rfl
    ffn)))))))))))))) ?_
  refine lt_call (dt := some 53) rfl rfl (fun ρ hρ => ⟨rfl, opc_of rfl rfl is22 (ma_cons ((hρ 52 (lmem rfl)).trans rfl) rfl)⟩) H (fun _ _ h _ => ⟨rfl, h⟩) fun r228 aw229 H => ?_
  obtain ⟨hg170, H⟩ := H
  replace hg170 := hg170 _ _ hp168
  obtain ⟨hg186, H⟩ := H
  replace hg186 := hg186 _ _ hp184
  obtain ⟨b231, i232, l233, c234, p230, hp235, h0236, hj237, hv238, H⟩ := H
  refine lt_next (l := [0, 1, 2, 3, 4, 5, 6, 7, 8, 9, 15]) (hv := [(15, p230)]) rfl rfl (pv_cons rfl (pv_nil _))
    (ffc (d := 39) (v := p_0) (hd_v rfl fun ρ hρ => ⟨rfl, opv_move rfl rfl ((hρ 0 (lmem rfl)).trans h0)⟩) rfl rfl
    (ffc (d := 40) (v := p_0) (hd_v rfl fun ρ hρ => ⟨rfl, ov_nck rfl rfl ((hρ 39 (lmem rfl)).trans rfl) hp155⟩) rfl rfl
    (ffc (d := 41) (v := p156) (hd_v rfl fun ρ hρ => ⟨rfl, ov_fldA rfl rfl underlying76 rfl sz30 (by decide) ((hρ 40 (lmem rfl)).trans rfl) hp159 rfl hv160⟩) rfl rfl
    (ffc (d := 42) (v := p161) (hd_v rfl fun ρ hρ => ⟨rfl, ov_fldA rfl rfl underlying30 rfl sz28 (by decide) ((hρ 41 (lmem rfl)).trans rfl) hp164 rfl hv165⟩) rfl rfl
    (ffc (d := 43) (v := x169) (hd_v rfl fun ρ hρ => ⟨rfl, ov_ldV rfl underlying28 rfl rfl ((hρ 42 (lmem rfl)).trans rfl) hp168 hg170⟩) rfl rfl
    (ffc (d := 44) (v := p_0) (hd_v rfl fun ρ hρ => ⟨rfl, opv_move rfl rfl ((hρ 0 (lmem rfl)).trans h0)⟩) rfl rfl
    (ffc (d := 45) (v := p_0) (hd_v rfl fun ρ hρ => ⟨rfl, ov_nck rfl rfl ((hρ 44 (lmem rfl)).trans rfl) hp171⟩) rfl rfl
    (ffc (d := 46) (v := p172) (hd_v rfl fun ρ hρ => ⟨rfl, ov_fldA rfl rfl underlying76 rfl sz30 (by decide) ((hρ 45 (lmem rfl)).trans rfl) hp175 rfl hv176⟩) rfl rfl
    (ffc (d := 47) (v := p177) (hd_v rfl fun ρ hρ => ⟨rfl, ov_fldA rfl rfl underlying30 rfl sz3 (by decide) ((hρ 46 (lmem rfl)).trans rfl) hp180 rfl hv181⟩) rfl rfl
    (ffc (d := 48) (v := .int .i64 x185) (hd_v rfl fun ρ hρ => ⟨rfl, ov_ldI rfl underlying3 rfl ((hρ 47 (lmem rfl)).trans rfl) hp184 hg186⟩) rfl rfl
    (ffc (d := 54) (v := p230) (hd_v rfl fun ρ hρ => ⟨rfl, ov_ixS rfl rfl rfl underlying28 sz24 ((hρ 43 (lmem rfl)).trans rfl) ((hρ 48 (lmem rfl)).trans rfl) hp235 h0236 hj237 hv238⟩) rfl rfl
    ffn))))))))))) ?_
  obtain ⟨b240, i241, aw239, hp242, hw243, ho244, ha245, H⟩ := H
  refine lt_val (dt := none) (v := undef) rfl rfl (fun ρ hρ => ⟨rfl, ov_st rfl rfl rfl ((hρ 54 (lmem rfl)).trans rfl) ((hρ 53 (lmem rfl)).trans rfl) rfl sz24 hp242 hw243 ho244 ha245⟩) ?_
  refine lt_next (l := []) (hv := []) rfl rfl (pv_nil _)
    ffn ?_
  refine lt_end ?_
  refine ago_seqE E31_10 ?_
  refine ago_cut (fun ρ => ρ 0 = p_0 ∧ True) ⟨h0, trivial⟩ (fun ρ ⟨h0, _⟩ => ?_)
  refine ago_regE E31_11 (l := [0, 1]) rfl ?_
  refine lk (dt := some 55) R31_5_N rfl rfl rfl (opv_move rfl rfl h0) ?_
  refine lk_call (dt := some 56) R31_5_N rfl rfl rfl (opc_of rfl rfl is61 (ma_cons rfl rfl)) H (fun _ _ h => ⟨rfl, h⟩) fun r246 aw247 H => ?_
  refine aops_nil ?_
  refine ago_regE E31_12 (l := [0, 1, 2, 3]) rfl ?_
  refine lk (dt := some 57) R31_6_N rfl rfl rfl (opv_move rfl rfl h0) ?_
  refine lk (dt := some 58) R31_6_N rfl rfl rfl (opv_move rfl rfl h0) ?_
  refine lk (dt := some 59) R31_6_N rfl rfl rfl (ov_mkF rfl rfl rfl (ma_cons rfl rfl) rfl) ?_
  refine lk_call (dt := some 60) R31_6_N rfl rfl rfl (opc_of rfl rfl is24 (ma_cons rfl (ma_cons rfl rfl))) H (fun _ _ h => ⟨rfl, h⟩) fun r248 aw249 H => ?_
  refine aops_nil ?_
  exact ago_nilR (r := ()) (ares_0 rfl ) rfl H
theorem F31_ok {Q : Unit → AW → Prop} {E : List PanicEntry → AW → Prop} (p_0 : Value) (x_1_0 : Int) (x_1_1 : Int) (x_1_2 : Int) (x_1_3 : Value) (aw : AW) (H : S31_0 Q E p_0 x_1_0 x_1_1 x_1_2 x_1_3 aw) : CallP prog 31 [p_0, .agg #[.int .u64 x_1_0, .int .u64 x_1_1, .int .u64 x_1_2, x_1_3]] aw sh31 Q E :=
  callP_of func31 C31_is rfl (Nat.le_of_ble_eq_true rfl) (S31_0_ok Q E _ p_0 x_1_0 x_1_1 x_1_2 x_1_3 aw rfl rfl H)
def C30_0 : Code := bodyOf f30
theorem C30_is : f30.body = some C30_0 := by kernel_rfl
def C30_1 : Code := cl C30_0
def R30_0 : Array Oper := regOps C30_1
def C30_2 : Code := cr C30_0
def C30_3 : Code := cl C30_2
def R30_1 : Array Oper := regOps C30_3
def C30_4 : Code := cr C30_2
def C30_5 : Code := cl C30_4
def C30_6 : Code := cl C30_5
def R30_2 : Array Oper := regOps C30_6
def C30_7 : Code := cr C30_5
def C30_8 : Code := cl C30_7
def C30_9 : Code := cl C30_8
def C30_10 : Code := cl C30_9
def R30_3 : Array Oper := regOps C30_10
def C30_11 : Code := cr C30_9
def C30_12 : Code := cl C30_11
def C30_13 : Code := cl C30_12
def C30_14 : Code := cr C30_12
def C30_15 : Code := cr C30_11
def C30_16 : Code := cl C30_15
def C30_17 : Code := cl C30_16
def C30_18 : Code := cl C30_17
def R30_4 : Array Oper := regOps C30_18
def C30_19 : Code := cr C30_17
def C30_20 : Code := cl C30_19
def R30_5 : Array Oper := regOps C30_20
def C30_21 : Code := cr C30_19
def C30_22 : Code := cl C30_21
def R30_6 : Array Oper := regOps C30_22
def C30_23 : Code := cr C30_21
def C30_24 : Code := cr C30_15
def R30_7 : Array Oper := regOps C30_24
def C30_25 : Code := cr C30_4
def C30_26 : Code := cl C30_25
def C30_27 : Code := cl C30_26
def R30_8 : Array Oper := regOps C30_27
def C30_28 : Code := cr C30_26
def C30_29 : Code := cl C30_28
def C30_30 : Code := cr C30_28
def C30_31 : Code := cr C30_25
def C30_32 : Code := cl C30_31
def R30_9 : Array Oper := regOps C30_32
def C30_33 : Code := cr C30_31
def C30_34 : Code := cl C30_33
def C30_35 : Code := cl C30_34
def R30_10 : Array Oper := regOps C30_35
def C30_36 : Code := cr C30_34
def C30_37 : Code := cl C30_36
def C30_38 : Code := cl C30_37
def C30_39 : Code := cl C30_38
def R30_11 : Array Oper := regOps C30_39
def C30_40 : Code := cr C30_38
def C30_41 : Code := cl C30_40
def C30_42 : Code := cl C30_41
def C30_43 : Code := cr C30_41
def C30_44 : Code := cr C30_40
def C30_45 : Code := cl C30_44
def C30_46 : Code := cl C30_45
def C30_47 : Code := cl C30_46
def R30_12 : Array Oper := regOps C30_47
def C30_48 : Code := cr C30_46
def R30_13 : Array Oper := regOps C30_48
def C30_49 : Code := cr C30_44
def R30_14 : Array Oper := regOps C30_49
def C30_50 : Code := cr C30_33
def R30_15 : Array Oper := regOps C30_50
theorem R30_0_N : dstsOk 75 R30_0 = true := by decide +kernel
theorem E30_1 : C30_1 = .region 0 R30_0 false := rfl
theorem R30_1_N : dstsOk 75 R30_1 = true := by decide +kernel
theorem E30_3 : C30_3 = .region 1 R30_1 false := rfl
theorem R30_2_N : dstsOk 75 R30_2 = true := by decide +kernel
theorem E30_6 : C30_6 = .region 2 R30_2 false := rfl
theorem R30_3_N : dstsOk 75 R30_3 = true := by decide +kernel
theorem E30_10 : C30_10 = .region 3 R30_3 false := rfl
theorem E30_13 : C30_13 = .skip := rfl
theorem E30_14 : C30_14 = .exit 0 := rfl
theorem E30_12 : C30_12 = .cond (.tmp 16) C30_13 C30_14 := rfl
theorem R30_4_N : dstsOk 75 R30_4 = true := by decide +kernel
theorem E30_18 : C30_18 = .region 4 R30_4 false := rfl
theorem R30_5_N : dstsOk 75 R30_5 = true := by decide +kernel
theorem E30_20 : C30_20 = .region 5 R30_5 false := rfl
theorem R30_6_N : dstsOk 75 R30_6 = true := by decide +kernel
theorem E30_22 : C30_22 = .region 6 R30_6 false := rfl
theorem E30_23 : C30_23 = .skip := rfl
theorem E30_21 : C30_21 = .cond (.tmp 19) C30_22 C30_23 := rfl
theorem E30_19 : C30_19 = .seq C30_20 C30_21 := rfl
theorem E30_17 : C30_17 = .seq C30_18 C30_19 := rfl
theorem E30_16 : C30_16 = .block 1 C30_17 := rfl
theorem R30_7_N : dstsOk 75 R30_7 = true := by decide +kernel
theorem E30_24 : C30_24 = .region 7 R30_7 false := rfl
theorem E30_15 : C30_15 = .seq C30_16 C30_24 := rfl
theorem E30_11 : C30_11 = .seq C30_12 C30_15 := rfl
theorem E30_9 : C30_9 = .seq C30_10 C30_11 := rfl
theorem E30_8 : C30_8 = .loop C30_9 := rfl
theorem E30_7 : C30_7 = .block 0 C30_8 := rfl
theorem E30_5 : C30_5 = .seq C30_6 C30_7 := rfl
theorem R30_8_N : dstsOk 75 R30_8 = true := by decide +kernel
theorem E30_27 : C30_27 = .region 8 R30_8 false := rfl
theorem E30_29 : C30_29 = .ret := rfl
theorem E30_30 : C30_30 = .skip := rfl
theorem E30_28 : C30_28 = .cond (.tmp 36) C30_29 C30_30 := rfl
theorem E30_26 : C30_26 = .seq C30_27 C30_28 := rfl
theorem R30_9_N : dstsOk 75 R30_9 = true := by decide +kernel
theorem E30_32 : C30_32 = .region 9 R30_9 false := rfl
theorem R30_10_N : dstsOk 75 R30_10 = true := by decide +kernel
theorem E30_35 : C30_35 = .region 10 R30_10 false := rfl
theorem R30_11_N : dstsOk 75 R30_11 = true := by decide +kernel
theorem E30_39 : C30_39 = .region 11 R30_11 false := rfl
theorem E30_42 : C30_42 = .skip := rfl
theorem E30_43 : C30_43 = .exit 2 := rfl
theorem E30_41 : C30_41 = .cond (.tmp 52) C30_42 C30_43 := rfl
theorem R30_12_N : dstsOk 75 R30_12 = true := by decide +kernel
theorem E30_47 : C30_47 = .region 12 R30_12 false := rfl
theorem R30_13_N : dstsOk 75 R30_13 = true := by decide +kernel
theorem R30_13_O : linOk R30_13 [0, 1, 2, 3, 4, 5, 6, 7, 8, 9, 10, 11, 12] [(13, [0, 1, 2, 3, 4, 5, 6, 7, 8, 9], [14, 15]), (16, [9], [17]), (18, [], [])] = true := by decide +kernel
theorem E30_48 : C30_48 = .region 13 R30_13 true := rfl
theorem E30_46 : C30_46 = .seq C30_47 C30_48 := rfl
theorem E30_45 : C30_45 = .block 3 C30_46 := rfl
theorem R30_14_N : dstsOk 75 R30_14 = true := by decide +kernel
theorem E30_49 : C30_49 = .region 14 R30_14 false := rfl
theorem E30_44 : C30_44 = .seq C30_45 C30_49 := rfl
theorem E30_40 : C30_40 = .seq C30_41 C30_44 := rfl
theorem E30_38 : C30_38 = .seq C30_39 C30_40 := rfl
theorem E30_37 : C30_37 = .loop C30_38 := rfl
theorem E30_36 : C30_36 = .block 2 C30_37 := rfl
theorem E30_34 : C30_34 = .seq C30_35 C30_36 := rfl
theorem R30_15_N : dstsOk 75 R30_15 = true := by decide +kernel
theorem E30_50 : C30_50 = .region 15 R30_15 false := rfl
theorem E30_33 : C30_33 = .seq C30_34 C30_50 := rfl
theorem E30_31 : C30_31 = .seq C30_32 C30_33 := rfl
theorem E30_25 : C30_25 = .seq C30_26 C30_31 := rfl
theorem E30_4 : C30_4 = .seq C30_5 C30_25 := rfl
theorem E30_2 : C30_2 = .seq C30_3 C30_4 := rfl
theorem E30_0 : C30_0 = .seq C30_1 C30_2 := rfl
def S30_3 (Q : Unit → AW → Prop) (E : List PanicEntry → AW → Prop) (nx1 : Value → Value → Int → Value → Int → Int → AW → Prop) (p_0 : Value) (s_2 : Value) (n_3 : Int) (t_13 : Value) (t_14 : Int) (t_15 : Int) (aw : AW) : Prop :=
  nx1 p_0 s_2 n_3 t_13 t_14 (IntKind.i64.wrap (t_15 + 1)) aw
def S30_2s (Q : Unit → AW → Prop) (E : List PanicEntry → AW → Prop)  (nx2 : Value → Value → Int → Int → AW → Prop) (p_0 : Value) (s_2 : Value) (t_50 : Int) (t_51 : Int) (aw : AW) : Prop :=
  cnd (decide (t_51 < t_50)) (nck s_2 (fldA s_2 14 fun p3 =>
  ldV aw p3 fun x11 =>
  nck s_2 (fldA s_2 15 fun p14 =>
  ldV aw p14 fun x22 =>
  nck s_2 (ptr s_2 fun b25 i26 =>
  gI .i64 aw b25 i26 fun c28 =>
  gI .i64 aw b25 (i26 + 1) fun c29 =>
  gI .i64 aw b25 (i26 + 2) fun c30 =>
  gI .u64 aw b25 (i26 + 3) fun c31 =>
  gI .i64 aw b25 (i26 + 4) fun c32 =>
  gI .u64 aw b25 (i26 + 5) fun c33 =>
  gI .u64 aw b25 (i26 + 6) fun c34 =>
  gV aw b25 (i26 + 7) fun c35 =>
  gV aw b25 (i26 + 8) fun c36 =>
  gI .u64 aw b25 (i26 + 9) fun c37 =>
  gI .u8 aw b25 (i26 + 10) fun c38 =>
  gI .i64 aw b25 (i26 + 11) fun c39 =>
  gI .i64 aw b25 (i26 + 12) fun c40 =>
  gV aw b25 (i26 + 13) fun c41 =>
  gV aw b25 (i26 + 14) fun c42 =>
  gV aw b25 (i26 + 15) fun c43 =>
  CallP prog 22 [.agg #[.int .i64 c28, .int .i64 c29, .int .i64 c30, .int .u64 c31, .int .i64 c32, .int .u64 c33, .int .u64 c34, c35, c36, .int .u64 c37, .int .u8 c38, .int .i64 c39, .int .i64 c40, c41, c42, c43]] aw sh22 (fun r60 aw61 =>
  again1 aw61 p3 (x11) ∧ again1 aw61 p14 (x22) ∧ ixS x11 t_51 1 fun p62 =>
  st aw61 p62 [.int .u64 (IntKind.u64.wrap (r60 + 1))] fun aw71 =>
  ixS x22 t_51 1 fun p78 =>
  st aw71 p78 [.int .u64 0] fun aw87 =>
  nx2 p_0 s_2 t_50 (IntKind.i64.wrap (t_51 + 1)) aw87) E)))) (CallP prog 31 [p_0, .agg #[.int .u64 0, .int .u64 0, .int .u64 0, (.slice none 0 0)]] aw sh31 (fun r94 aw95 =>
  Q () aw95) E)
def S30_2 (Q : Unit → AW → Prop) (E : List PanicEntry → AW → Prop)  : Nat → Value → Value → Int → Int → AW → Prop
  | 0 => fun _ _ _ _ _ => False
  | n + 1 => S30_2s Q E  (S30_2 Q E  n)
def S30_1s (Q : Unit → AW → Prop) (E : List PanicEntry → AW → Prop)  (nx1 : Value → Value → Int → Value → Int → Int → AW → Prop) (p_0 : Value) (s_2 : Value) (n_3 : Int) (t_13 : Value) (t_14 : Int) (t_15 : Int) (aw : AW) : Prop :=
  cnd (decide (t_15 < t_14)) (ixS t_13 t_15 1 fun p97 =>
  ldB aw p97 fun x109 =>
  cnd x109 (S30_3 Q E nx1 p_0 s_2 (IntKind.i64.wrap (n_3 + 1)) t_13 t_14 t_15 aw) (S30_3 Q E nx1 p_0 s_2 n_3 t_13 t_14 t_15 aw)) (nck s_2 (fldA s_2 10 fun p113 =>
  ldI .u8 aw p113 fun x121 =>
  cnd (!decide (x121 = 1)) (Q () aw) (nck s_2 (fldA s_2 0 fun p126 =>
  ldI .i64 aw p126 fun x134 =>
  cnd (decide ((IntKind.i64.wrap (2 * n_3)) ≤ x134)) (Q () aw) (nck s_2 (fldA s_2 1 fun p138 =>
  ldI .i64 aw p138 fun x146 =>
  nck s_2 (fldA s_2 10 fun p149 =>
  st aw p149 [.int .u8 2] fun aw154 =>
  nck s_2 (fldA s_2 11 fun p162 =>
  st aw154 p162 [.int .i64 x146] fun aw167 =>
  nck s_2 (fldA s_2 0 fun p175 =>
  ldI .i64 aw167 p175 fun x183 =>
  ∃ n, S30_2 Q E  n p_0 s_2 x183 0 aw167)))))))))
def S30_1 (Q : Unit → AW → Prop) (E : List PanicEntry → AW → Prop)  : Nat → Value → Value → Int → Value → Int → Int → AW → Prop
  | 0 => fun _ _ _ _ _ _ _ => False
  | n + 1 => S30_1s Q E  (S30_1 Q E  n)
def S30_0 (Q : Unit → AW → Prop) (E : List PanicEntry → AW → Prop)  (p_0 : Value) (aw : AW) : Prop :=
  nck p_0 (fldA p_0 0 fun p186 =>
  nck p186 (fldA p186 13 fun p192 =>
  ldV aw p192 fun x200 =>
  slen x200 fun n202 =>
  ∃ n, S30_1 Q E  n p_0 p186 0 x200 n202 0 aw))
theorem S30_3_ok (Q : Unit → AW → Prop) (E : List PanicEntry → AW → Prop) (nx1 : Value → Value → Int → Value → Int → Int → AW → Prop) (L1 : ∀ (ρ : Env) (p_0 : Value) (s_2 : Value) (n_3 : Int) (t_13 : Value) (t_14 : Int) (t_15 : Int) (aw : AW) (h0 : ρ 0 = p_0) (h2 : ρ 2 = s_2) (h3 : ρ 3 = .int .i64 n_3) (h13 : ρ 13 = t_13) (h14 : ρ 14 = .int .i64 t_14) (h15 : ρ 15 = .int .i64 t_15), nx1 p_0 s_2 n_3 t_13 t_14 t_15 aw → AGo prog 75 [.code C30_9, .inLoop C30_9, .inBlock 0, .code C30_25] ρ [] aw (RR prog f30 75 sh30 Q E)) (ρ : Env) (p_0 : Value) (s_2 : Value) (n_3 : Int) (t_13 : Value) (t_14 : Int) (t_15 : Int) (aw : AW) (h0 : ρ 0 = p_0) (h2 : ρ 2 = s_2) (h3 : ρ 3 = .int .i64 n_3) (h13 : ρ 13 = t_13) (h14 : ρ 14 = .int .i64 t_14) (h15 : ρ 15 = .int .i64 t_15) (H : S30_3 Q E nx1 p_0 s_2 n_3 t_13 t_14 t_15 aw) :
    AGo prog 75 [.inBlock 1, .code C30_24, .inLoop C30_9, .inBlock 0, .code C30_25] ρ [] aw (RR prog f30 75 sh30 Q E) := by
  unfold S30_3 at H
  refine ago_inBlock ?_
  refine ago_regE E30_24 (l := [0, 1]) rfl ?_
  refine lk (dt := some 22) R30_7_N rfl rfl rfl (opv_add rfl rfl rfl h15 rfl) ?_
  refine lk (dt := some 15) R30_7_N rfl rfl rfl (opv_move rfl rfl rfl) ?_
  refine aops_nil ?_
  refine ago_inLoop ?_
  exact L1 _ p_0 s_2 n_3 t_13 t_14 (IntKind.i64.wrap (t_15 + 1)) aw h0 h2 h3 h13 h14 rfl H
theorem S30_2s_ok (Q : Unit → AW → Prop) (E : List PanicEntry → AW → Prop)  (nx2 : Value → Value → Int → Int → AW → Prop) (L2 : ∀ (ρ : Env) (p_0 : Value) (s_2 : Value) (t_50 : Int) (t_51 : Int) (aw : AW) (h0 : ρ 0 = p_0) (h2 : ρ 2 = s_2) (h50 : ρ 50 = .int .i64 t_50) (h51 : ρ 51 = .int .i64 t_51), nx2 p_0 s_2 t_50 t_51 aw → AGo prog 75 [.code C30_38, .inLoop C30_38, .inBlock 2, .code C30_50] ρ [] aw (RR prog f30 75 sh30 Q E)) (ρ : Env) (p_0 : Value) (s_2 : Value) (t_50 : Int) (t_51 : Int) (aw : AW) (h0 : ρ 0 = p_0) (h2 : ρ 2 = s_2) (h50 : ρ 50 = .int .i64 t_50) (h51 : ρ 51 = .int .i64 t_51) (H : S30_2s Q E  nx2 p_0 s_2 t_50 t_51 aw) :
    AGo prog 75 [.code C30_38, .inLoop C30_38, .inBlock 2, .code C30_50] ρ [] aw (RR prog f30 75 sh30 Q E) := by
  unfold S30_2s at H
  refine ago_seqE E30_38 ?_
  refine ago_regE E30_39 (l := [0]) rfl ?_
  refine lk (dt := some 52) R30_11_N rfl rfl rfl (opv_lt rfl rfl rfl h51 h50) ?_
  refine aops_nil ?_
  refine ago_seqE E30_40 ?_
  refine ago_condE  E30_41 rfl rfl (fun hb1 => ?_) (fun hb1 => ?_)
  · replace H := cnd_t H hb1
    refine ago_skipE E30_42 ?_
    refine ago_seqE E30_44 ?_
    refine ago_blockE E30_45 ?_
    refine ago_seqE E30_46 ?_
    refine ago_regE E30_47 (l := [0, 1]) rfl ?_
    refine lk (dt := some 53) R30_12_N rfl rfl rfl (opv_move rfl rfl h51) ?_
    refine lk (dt := some 6) R30_12_N rfl rfl rfl (opv_assign rfl rfl rfl) ?_
    refine aops_nil ?_
    obtain ⟨hp2, H⟩ := H
    obtain ⟨b4, i5, p3, hp6, hv7, H⟩ := H
    obtain ⟨b8, i9, x11, hp10, hg12, H⟩ := H
    obtain ⟨hp13, H⟩ := H
    obtain ⟨b15, i16, p14, hp17, hv18, H⟩ := H
    obtain ⟨b19, i20, x22, hp21, hg23, H⟩ := H
    obtain ⟨hp24, H⟩ := H
    obtain ⟨b25, i26, hp27, c28, hg44, c29, hg45, c30, hg46, c31, hg47, c32, hg48, c33, hg49, c34, hg50, c35, hg51, c36, hg52, c37, hg53, c38, hg54, c39, hg55, c40, hg56, c41, hg57, c42, hg58, c43, hg59, H⟩ := H
    refine ago_drawH (p := [0, 1, 2, 3, 4, 5, 6, 7, 8, 9, 10, 11, 12]) (tl := [(13, [0, 1, 2, 3, 4, 5, 6, 7, 8, 9], [14, 15]), (16, [9], [17]), (18, [], [])]) (hv := [(0, s_2), (1, s_2), (2, p3), (3, x11), (4, Value.int .i64 t_51), (5, s_2), (6, s_2), (7, p14), (8, x22), (9, Value.int .i64 t_51), (10, s_2), (11, s_2), (12, Value.agg #[.int .i64 c28, .int .i64 c29, .int .i64 c30, .int .u64 c31, .int .i64 c32, .int .u64 c33, .int .u64 c34, c35, c36, .int .u64 c37, .int .u8 c38, .int .i64 c39, .int .i64 c40, c41, c42, c43])]) E30_48 mixed R30_13_N R30_13_O rfl (pv_cons rfl (pv_cons rfl (pv_cons rfl (pv_cons rfl (pv_cons rfl (pv_cons rfl (pv_cons rfl (pv_cons rfl (pv_cons rfl (pv_cons rfl (pv_cons rfl (pv_cons rfl (pv_cons rfl (pv_nil _))))))))))))))
      (ffc (d := 54) (v := s_2) (hd_v rfl fun ρ hρ => ⟨rfl, opv_move rfl rfl ((hρ 2 (lmem rfl)).trans h2)⟩) rfl rfl
      (ffc (d := 55) (v := s_2) (hd_v rfl fun ρ hρ => ⟨rfl, ov_nck rfl rfl ((hρ 54 (lmem rfl)).trans rfl) hp2⟩) rfl rfl
      (ffc (d := 56) (v := p3) (hd_v rfl fun ρ hρ => ⟨rfl, ov_fldA rfl rfl underlying30 rfl sz28 (by decide) ((hρ 55 (lmem rfl)).trans rfl) hp6 rfl hv7⟩) rfl rfl
      (ffc (d := 57) (v := x11) (hd_v rfl fun ρ hρ => ⟨rfl, ov_ldV rfl underlying28 rfl rfl ((hρ 56 (lmem rfl)).trans rfl) hp10 hg12⟩) rfl rfl
      (ffc (d := 58) (v := .int .i64 t_51) (hd_v rfl fun ρ hρ => ⟨rfl, opv_move rfl rfl ((hρ 6 (lmem rfl)).trans rfl)⟩) rfl rfl
      (ffc (d := 59) (v := s_2) (hd_v rfl fun ρ hρ => ⟨rfl, opv_move rfl rfl ((hρ 2 (lmem rfl)).trans h2)⟩) rfl rfl
      (ffc (d := 60) (v := s_2) (hd_v rfl fun ρ hρ => ⟨rfl, ov_nck rfl rfl ((hρ 59 (lmem rfl)).trans rfl) hp13⟩) rfl rfl
      (ffc (d := 61) (v := p14) (hd_v rfl fun ρ hρ => ⟨rfl, ov_fldA rfl rfl underlying30 rfl sz28 (by decide) ((hρ 60 (lmem rfl)).trans rfl) hp17 rfl hv18⟩) rfl rfl
      (ffc (d := 62) (v := x22) (hd_v rfl fun ρ hρ => ⟨rfl, ov_ldV rfl underlying28 rfl rfl ((hρ 61 (lmem rfl)).trans rfl) hp21 hg23⟩) rfl rfl
      (ffc (d := 63) (v := .int .i64 t_51) (hd_v rfl fun ρ hρ => ⟨rfl, opv_move rfl rfl ((hρ 6 (lmem rfl)).trans rfl)⟩) rfl rfl
      (ffc (d := 64) (v := s_2) (hd_v rfl fun ρ hρ => ⟨rfl, opv_move rfl rfl ((hρ 2 (lmem rfl)).trans h2)⟩) rfl rfl
      (ffc (d := 65) (v := s_2) (hd_v rfl fun ρ hρ => ⟨rfl, ov_nck rfl rfl ((hρ 64 (lmem rfl)).trans rfl) hp24⟩) rfl rfl
      (ffc (d := 66) (v := .agg #[.int .i64 c28, .int .i64 c29, .int .i64 c30, .int .u64 c31, .int .i64 c32, .int .u64 c33, .int .u64 c34, c35, c36, .int .u64 c37, .int .u8 c38, .int .i64 c39, .int .i64 c40, c41, c42, c43]) (hd_v rfl fun ρ hρ => ⟨rfl, ov_ldN rfl underlying30 rfl sz30 rfl ((hρ 65 (lmem rfl)).trans rfl) hp27 (getN_cons hg44 (getN_cons hg45 (getN_cons hg46 (getN_cons hg47 (getN_cons hg48 (getN_cons hg49 (getN_cons hg50 (getN_cons hg51 (getN_cons hg52 (getN_cons hg53 (getN_cons hg54 (getN_cons hg55 (getN_cons hg56 (getN_cons hg57 (getN_cons hg58 (getN_cons hg59 getN_nil))))))))))))))))⟩) rfl rfl
      ffn))))))))))))) ?_
    refine lt_call (dt := some 67) rfl rfl (fun ρ hρ => ⟨rfl, opc_of rfl rfl is22 (ma_cons ((hρ 66 (lmem rfl)).trans rfl) rfl)⟩) H (fun _ _ h _ => ⟨rfl, h⟩) fun r60 aw61 H => ?_
    obtain ⟨hg12, H⟩ := H
    replace hg12 := hg12 _ _ hp10
    obtain ⟨hg23, H⟩ := H
    replace hg23 := hg23 _ _ hp21
    obtain ⟨b63, i64, l65, c66, p62, hp67, h068, hj69, hv70, H⟩ := H
    refine lt_next (l := [0, 1, 2, 3, 4, 5, 6, 7, 8, 9, 14, 15]) (hv := [(14, Value.int .u64 (IntKind.u64.wrap (r60 + 1))), (15, p62)]) rfl rfl (pv_cons rfl (pv_cons rfl (pv_nil _)))
      (ffc (d := 54) (v := s_2) (hd_v rfl fun ρ hρ => ⟨rfl, opv_move rfl rfl ((hρ 2 (lmem rfl)).trans h2)⟩) rfl rfl
      (ffc (d := 55) (v := s_2) (hd_v rfl fun ρ hρ => ⟨rfl, ov_nck rfl rfl ((hρ 54 (lmem rfl)).trans rfl) hp2⟩) rfl rfl
      (ffc (d := 56) (v := p3) (hd_v rfl fun ρ hρ => ⟨rfl, ov_fldA rfl rfl underlying30 rfl sz28 (by decide) ((hρ 55 (lmem rfl)).trans rfl) hp6 rfl hv7⟩) rfl rfl
      (ffc (d := 57) (v := x11) (hd_v rfl fun ρ hρ => ⟨rfl, ov_ldV rfl underlying28 rfl rfl ((hρ 56 (lmem rfl)).trans rfl) hp10 hg12⟩) rfl rfl
      (ffc (d := 58) (v := .int .i64 t_51) (hd_v rfl fun ρ hρ => ⟨rfl, opv_move rfl rfl ((hρ 6 (lmem rfl)).trans rfl)⟩) rfl rfl
      (ffc (d := 59) (v := s_2) (hd_v rfl fun ρ hρ => ⟨rfl, opv_move rfl rfl ((hρ 2 (lmem rfl)).trans h2)⟩) rfl rfl
      (ffc (d := 60) (v := s_2) (hd_v rfl fun ρ hρ => ⟨rfl, ov_nck rfl rfl ((hρ 59 (lmem rfl)).trans rfl) hp13⟩) rfl rfl
      (ffc (d := 61) (v := p14) (hd_v rfl fun ρ hρ => ⟨rfl, ov_fldA rfl rfl underlying30 rfl sz28 (by decide) ((hρ 60 (lmem rfl)).trans rfl) hp17 rfl hv18⟩) rfl rfl
      (ffc (d := 62) (v := x22) (hd_v rfl fun ρ hρ => ⟨rfl, ov_ldV rfl underlying28 rfl rfl ((hρ 61 (lmem rfl)).trans rfl) hp21 hg23⟩) rfl rfl
      (ffc (d := 63) (v := .int .i64 t_51) (hd_v rfl fun ρ hρ => ⟨rfl, opv_move rfl rfl ((hρ 6 (lmem rfl)).trans rfl)⟩) rfl rfl
      (ffc (d := 68) (v := .int .u64 (IntKind.u64.wrap (r60 + 1))) (hd_v rfl fun ρ hρ => ⟨rfl, opv_add rfl rfl rfl ((hρ 67 (lmem rfl)).trans rfl) rfl⟩) rfl rfl
      (ffc (d := 69) (v := p62) (hd_v rfl fun ρ hρ => ⟨rfl, ov_ixS rfl rfl rfl underlying28 sz24 ((hρ 57 (lmem rfl)).trans rfl) ((hρ 58 (lmem rfl)).trans rfl) hp67 h068 hj69 hv70⟩) rfl rfl
      ffn)))))))))))) ?_
    obtain ⟨b72, i73, aw71, hp74, hw75, ho76, ha77, H⟩ := H
    refine lt_val (dt := none) (v := undef) rfl rfl (fun ρ hρ => ⟨rfl, ov_st rfl rfl rfl ((hρ 69 (lmem rfl)).trans rfl) ((hρ 68 (lmem rfl)).trans rfl) rfl sz24 hp74 hw75 ho76 ha77⟩) ?_
    obtain ⟨b79, i80, l81, c82, p78, hp83, h084, hj85, hv86, H⟩ := H
    refine lt_next (l := [9, 17]) (hv := [(17, p78)]) rfl rfl (pv_cons rfl (pv_nil _))
      (ffc (d := 63) (v := .int .i64 t_51) (hd_v rfl fun ρ hρ => ⟨rfl, opv_move rfl rfl ((hρ 6 (lmem rfl)).trans rfl)⟩) rfl rfl
      (ffc (d := 70) (v := p78) (hd_v rfl fun ρ hρ => ⟨rfl, ov_ixS rfl rfl rfl underlying28 sz24 ((hρ 62 (lmem rfl)).trans rfl) ((hρ 63 (lmem rfl)).trans rfl) hp83 h084 hj85 hv86⟩) rfl rfl
      ffn)) ?_
    obtain ⟨b88, i89, aw87, hp90, hw91, ho92, ha93, H⟩ := H
    refine lt_val (dt := none) (v := undef) rfl rfl (fun ρ hρ => ⟨rfl, ov_st rfl rfl rfl ((hρ 70 (lmem rfl)).trans rfl) rfl rfl sz24 hp90 hw91 ho92 ha93⟩) ?_
    refine lt_next (l := []) (hv := []) rfl rfl (pv_nil _)
      ffn ?_
    refine lt_end ?_
    refine ago_inBlock ?_
    refine ago_cut (fun ρ => ρ 0 = p_0 ∧ ρ 2 = s_2 ∧ ρ 50 = .int .i64 t_50 ∧ ρ 51 = .int .i64 t_51 ∧ True) ⟨h0, h2, h50, h51, trivial⟩ (fun ρ ⟨h0, h2, h50, h51, _⟩ => ?_)
    refine ago_regE E30_49 (l := [0, 1]) rfl ?_
    refine lk (dt := some 71) R30_14_N rfl rfl rfl (opv_add rfl rfl rfl h51 rfl) ?_
    refine lk (dt := some 51) R30_14_N rfl rfl rfl (opv_move rfl rfl rfl) ?_
    refine aops_nil ?_
    refine ago_inLoop ?_
    exact L2 _ p_0 s_2 t_50 (IntKind.i64.wrap (t_51 + 1)) aw87 h0 h2 h50 rfl H
  replace H := cnd_f H hb1
  refine ago_exitE E30_43 rfl ?_
  refine ago_regE E30_50 (l := [0, 1, 2]) rfl ?_
  refine lk (dt := some 72) R30_15_N rfl rfl rfl (opv_move rfl rfl h0) ?_
  refine lk (dt := some 73) R30_15_N rfl rfl rfl (ov_bld (r := [.int .u64 0, .int .u64 0, .int .u64 0, (.slice none 0 0)]) rfl rfl bo40 rfl (fillN rfl)) ?_
  refine lk_call (dt := some 74) R30_15_N rfl rfl rfl (opc_of rfl rfl is31 (ma_cons rfl (ma_cons rfl rfl))) H (fun _ _ h => ⟨rfl, h⟩) fun r94 aw95 H => ?_
  refine aops_nil ?_
  exact ago_nilR (r := ()) (ares_0 rfl ) rfl H
theorem S30_2_ok (Q : Unit → AW → Prop) (E : List PanicEntry → AW → Prop)  : ∀ (n : Nat) (ρ : Env) (p_0 : Value) (s_2 : Value) (t_50 : Int) (t_51 : Int) (aw : AW) (h0 : ρ 0 = p_0) (h2 : ρ 2 = s_2) (h50 : ρ 50 = .int .i64 t_50) (h51 : ρ 51 = .int .i64 t_51), S30_2 Q E  n p_0 s_2 t_50 t_51 aw →
    AGo prog 75 [.code C30_38, .inLoop C30_38, .inBlock 2, .code C30_50] ρ [] aw (RR prog f30 75 sh30 Q E)
  | 0, _, _, _, _, _, _, _, _, _, _ => fun H => H.elim
  | n + 1, ρ, p_0, s_2, t_50, t_51, aw, h0, h2, h50, h51 => fun H => S30_2s_ok Q E  _ (S30_2_ok Q E  n) ρ p_0 s_2 t_50 t_51 aw h0 h2 h50 h51 H
theorem S30_1s_ok (Q : Unit → AW → Prop) (E : List PanicEntry → AW → Prop)  (nx1 : Value → Value → Int → Value → Int → Int → AW → Prop) (L1 : ∀ (ρ : Env) (p_0 : Value) (s_2 : Value) (n_3 : Int) (t_13 : Value) (t_14 : Int) (t_15 : Int) (aw : AW) (h0 : ρ 0 = p_0) (h2 : ρ 2 = s_2) (h3 : ρ 3 = .int .i64 n_3) (h13 : ρ 13 = t_13) (h14 : ρ 14 = .int .i64 t_14) (h15 : ρ 15 = .int .i64 t_15), nx1 p_0 s_2 n_3 t_13 t_14 t_15 aw → AGo prog 75 [.code C30_9, .inLoop C30_9, .inBlock 0, .code C30_25] ρ [] aw (RR prog f30 75 sh30 Q E)) (ρ : Env) (p_0 : Value) (s_2 : Value) (n_3 : Int) (t_13 : Value) (t_14 : Int) (t_15 : Int) (aw : AW) (h0 : ρ 0 = p_0) (h2 : ρ 2 = s_2) (h3 : ρ 3 = .int .i64 n_3) (h13 : ρ 13 = t_13) (h14 : ρ 14 = .int .i64 t_14) (h15 : ρ 15 = .int .i64 t_15) (H : S30_1s Q E  nx1 p_0 s_2 n_3 t_13 t_14 t_15 aw) :
    AGo prog 75 [.code C30_9, .inLoop C30_9, .inBlock 0, .code C30_25] ρ [] aw (RR prog f30 75 sh30 Q E) := by
  unfold S30_1s at H
  refine ago_seqE E30_9 ?_
  refine ago_regE E30_10 (l := [0]) rfl ?_
  refine lk (dt := some 16) R30_3_N rfl rfl rfl (opv_lt rfl rfl rfl h15 h14) ?_
  refine aops_nil ?_
  refine ago_seqE E30_11 ?_
  refine ago_condE  E30_12 rfl rfl (fun hb96 => ?_) (fun hb96 => ?_)
  · replace H := cnd_t H hb96
    refine ago_skipE E30_13 ?_
    refine ago_seqE E30_15 ?_
    refine ago_blockE E30_16 ?_
    refine ago_seqE E30_17 ?_
    refine ago_regE E30_18 (l := [0, 1, 2]) rfl ?_
    obtain ⟨b98, i99, l100, c101, p97, hp102, h0103, hj104, hv105, H⟩ := H
    refine lk (dt := some 17) R30_4_N rfl rfl rfl (ov_ixS rfl rfl rfl underlying27 sz4 h13 h15 hp102 h0103 hj104 hv105) ?_
    obtain ⟨b106, i107, x109, hp108, hg110, H⟩ := H
    refine lk (dt := some 18) R30_4_N rfl rfl rfl (ov_ldB rfl underlying4 rfl rfl hp108 hg110) ?_
    refine lk (dt := some 5) R30_4_N rfl rfl rfl (opv_assign rfl rfl rfl) ?_
    refine aops_nil ?_
    refine ago_seqE E30_19 ?_
    refine ago_regE E30_20 (l := [0]) rfl ?_
    refine lk (dt := some 19) R30_5_N rfl rfl rfl (opv_move rfl rfl rfl) ?_
    refine aops_nil ?_
    refine ago_condE  E30_21 rfl rfl (fun hb111 => ?_) (fun hb111 => ?_)
    · replace H := cnd_t H hb111
      refine ago_regE E30_22 (l := [0, 1, 2]) rfl ?_
      refine lk (dt := some 20) R30_6_N rfl rfl rfl (opv_move rfl rfl h3) ?_
      refine lk (dt := some 21) R30_6_N rfl rfl rfl (opv_add rfl rfl rfl rfl rfl) ?_
      refine lk (dt := some 3) R30_6_N rfl rfl rfl (opv_assign rfl rfl rfl) ?_
      refine aops_nil ?_
      exact S30_3_ok Q E nx1 L1 _ p_0 s_2 (IntKind.i64.wrap (n_3 + 1)) t_13 t_14 t_15 aw h0 h2 rfl h13 h14 h15 H
    replace H := cnd_f H hb111
    refine ago_skipE E30_23 ?_
    exact S30_3_ok Q E nx1 L1 _ p_0 s_2 n_3 t_13 t_14 t_15 aw h0 h2 h3 h13 h14 h15 H
  replace H := cnd_f H hb96
  refine ago_exitE E30_14 rfl ?_
  refine ago_seqE E30_25 ?_
  refine ago_seqE E30_26 ?_
  refine ago_regE E30_27 (l := [0, 1, 2, 3, 4, 5, 6, 7, 8, 9, 10, 11, 12, 13]) rfl ?_
  refine lk (dt := some 23) R30_8_N rfl rfl rfl (opv_move rfl rfl h2) ?_
  obtain ⟨hp112, H⟩ := H
  refine lk (dt := some 24) R30_8_N rfl rfl rfl (ov_nck rfl rfl rfl hp112) ?_
  obtain ⟨b114, i115, p113, hp116, hv117, H⟩ := H
  refine lk (dt := some 25) R30_8_N rfl rfl rfl (ov_fldA rfl rfl underlying30 rfl sz5 (by decide) rfl hp116 rfl hv117) ?_
  obtain ⟨b118, i119, x121, hp120, hg122, H⟩ := H
  refine lk (dt := some 26) R30_8_N rfl rfl rfl (ov_ldI rfl underlying5 rfl rfl hp120 hg122) ?_
  refine lk (dt := some 27) R30_8_N rfl rfl rfl (opv_neI rfl rfl rfl rfl rfl) ?_
  refine lk (dt := some 28) R30_8_N rfl rfl rfl (opv_move rfl rfl rfl) ?_
  rcases Bool.eq_false_or_eq_true (!decide (x121 = 1)) with hb123 | hb123
  · replace H := cnd_t H hb123
    refine lk_skip (dt := some 29) R30_8_N rfl rfl ⟨_, rfl, .inl ⟨_, rfl, gq hb123 rfl⟩⟩ ?_
    refine lk_skip (dt := some 30) R30_8_N rfl rfl ⟨_, rfl, .inl ⟨_, rfl, gq hb123 rfl⟩⟩ ?_
    refine lk_skip (dt := some 31) R30_8_N rfl rfl ⟨_, rfl, .inl ⟨_, rfl, gq hb123 rfl⟩⟩ ?_
    refine lk_skip (dt := some 32) R30_8_N rfl rfl ⟨_, rfl, .inl ⟨_, rfl, gq hb123 rfl⟩⟩ ?_
    refine lk_skip (dt := some 33) R30_8_N rfl rfl ⟨_, rfl, .inl ⟨_, rfl, gq hb123 rfl⟩⟩ ?_
    refine lk_skip (dt := some 34) R30_8_N rfl rfl ⟨_, rfl, .inl ⟨_, rfl, gq hb123 rfl⟩⟩ ?_
    refine lk_skip (dt := some 35) R30_8_N rfl rfl ⟨_, rfl, .inl ⟨_, rfl, gq hb123 rfl⟩⟩ ?_
    refine lk (dt := some 36) R30_8_N rfl rfl rfl (ov_pickT rfl rfl rfl rfl rfl hb123 rfl) ?_
    refine aops_nil ?_
    refine ago_condE  E30_28 rfl rfl (fun h => ?_) (fun h => tf h)
    exact ago_retE E30_29 (r := ()) (ares_0 rfl ) rfl H
  · replace H := cnd_f H hb123
    refine lk (dt := some 29) R30_8_N rfl rfl ⟨_, rfl, .inl ⟨_, rfl, gq hb123 rfl⟩⟩ (opv_move rfl rfl h3) ?_
    refine lk (dt := some 30) R30_8_N rfl rfl ⟨_, rfl, .inl ⟨_, rfl, gq hb123 rfl⟩⟩ (opv_mul rfl rfl rfl rfl rfl) ?_
    refine lk (dt := some 31) R30_8_N rfl rfl ⟨_, rfl, .inl ⟨_, rfl, gq hb123 rfl⟩⟩ (opv_move rfl rfl h2) ?_
    obtain ⟨hp125, H⟩ := H
    refine lk (dt := some 32) R30_8_N rfl rfl ⟨_, rfl, .inl ⟨_, rfl, gq hb123 rfl⟩⟩ (ov_nck rfl rfl rfl hp125) ?_
    obtain ⟨b127, i128, p126, hp129, hv130, H⟩ := H
    refine lk (dt := some 33) R30_8_N rfl rfl ⟨_, rfl, .inl ⟨_, rfl, gq hb123 rfl⟩⟩ (ov_fldA rfl rfl underlying30 rfl sz3 (by decide) rfl hp129 rfl hv130) ?_
    obtain ⟨b131, i132, x134, hp133, hg135, H⟩ := H
    refine lk (dt := some 34) R30_8_N rfl rfl ⟨_, rfl, .inl ⟨_, rfl, gq hb123 rfl⟩⟩ (ov_ldI rfl underlying3 rfl rfl hp133 hg135) ?_
    refine lk (dt := some 35) R30_8_N rfl rfl ⟨_, rfl, .inl ⟨_, rfl, gq hb123 rfl⟩⟩ (opv_le rfl rfl rfl rfl rfl) ?_
    refine lk (dt := some 36) R30_8_N rfl rfl rfl (ov_pickF rfl rfl rfl rfl rfl hb123 rfl) ?_
    refine aops_nil ?_
    refine ago_condE  E30_28 rfl rfl (fun hb136 => ?_) (fun hb136 => ?_)
    · replace H := cnd_t H hb136
      exact ago_retE E30_29 (r := ()) (ares_0 rfl ) rfl H
    replace H := cnd_f H hb136
    refine ago_skipE E30_30 ?_
    refine ago_seqE E30_31 ?_
    refine ago_cut (fun ρ => ρ 0 = p_0 ∧ ρ 2 = s_2 ∧ True) ⟨h0, h2, trivial⟩ (fun ρ ⟨h0, h2, _⟩ => ?_)
    refine ago_regE E30_32 (l := [0, 1, 2, 3, 4, 5, 6, 7, 8, 9, 10, 11]) rfl ?_
    refine lk (dt := some 37) R30_9_N rfl rfl rfl (opv_move rfl rfl h2) ?_
    refine lk (dt := some 38) R30_9_N rfl rfl rfl (opv_move rfl rfl h2) ?_
    refine lk (dt := some 39) R30_9_N rfl rfl rfl (opv_move rfl rfl h2) ?_
    obtain ⟨hp137, H⟩ := H
    refine lk (dt := some 40) R30_9_N rfl rfl rfl (ov_nck rfl rfl rfl hp137) ?_
    obtain ⟨b139, i140, p138, hp141, hv142, H⟩ := H
    refine lk (dt := some 41) R30_9_N rfl rfl rfl (ov_fldA rfl rfl underlying30 rfl sz3 (by decide) rfl hp141 rfl hv142) ?_
    obtain ⟨b143, i144, x146, hp145, hg147, H⟩ := H
    refine lk (dt := some 42) R30_9_N rfl rfl rfl (ov_ldI rfl underlying3 rfl rfl hp145 hg147) ?_
    obtain ⟨hp148, H⟩ := H
    refine lk (dt := some 43) R30_9_N rfl rfl rfl (ov_nck rfl rfl rfl hp148) ?_
    obtain ⟨b150, i151, p149, hp152, hv153, H⟩ := H
    refine lk (dt := some 44) R30_9_N rfl rfl rfl (ov_fldA rfl rfl underlying30 rfl sz5 (by decide) rfl hp152 rfl hv153) ?_
    obtain ⟨b155, i156, aw154, hp157, hw158, ho159, ha160, H⟩ := H
    refine lk (dt := none) R30_9_N rfl rfl rfl (ov_st rfl rfl rfl rfl rfl rfl sz5 hp157 hw158 ho159 ha160) ?_
    obtain ⟨hp161, H⟩ := H
    refine lk (dt := some 45) R30_9_N rfl rfl rfl (ov_nck rfl rfl rfl hp161) ?_
    obtain ⟨b163, i164, p162, hp165, hv166, H⟩ := H
    refine lk (dt := some 46) R30_9_N rfl rfl rfl (ov_fldA rfl rfl underlying30 rfl sz3 (by decide) rfl hp165 rfl hv166) ?_
    obtain ⟨b168, i169, aw167, hp170, hw171, ho172, ha173, H⟩ := H
    refine lk (dt := none) R30_9_N rfl rfl rfl (ov_st rfl rfl rfl rfl rfl rfl sz3 hp170 hw171 ho172 ha173) ?_
    refine aops_nil ?_
    refine ago_seqE E30_33 ?_
    refine ago_seqE E30_34 ?_
    refine ago_cut (fun ρ => ρ 0 = p_0 ∧ ρ 2 = s_2 ∧ True) ⟨h0, h2, trivial⟩ (fun ρ ⟨h0, h2, _⟩ => ?_)
    refine ago_regE E30_35 (l := [0, 1, 2, 3, 4]) rfl ?_
    refine lk (dt := some 47) R30_10_N rfl rfl rfl (opv_move rfl rfl h2) ?_
    obtain ⟨hp174, H⟩ := H
    refine lk (dt := some 48) R30_10_N rfl rfl rfl (ov_nck rfl rfl rfl hp174) ?_
    obtain ⟨b176, i177, p175, hp178, hv179, H⟩ := H
    refine lk (dt := some 49) R30_10_N rfl rfl rfl (ov_fldA rfl rfl underlying30 rfl sz3 (by decide) rfl hp178 rfl hv179) ?_
    obtain ⟨b180, i181, x183, hp182, hg184, H⟩ := H
    refine lk (dt := some 50) R30_10_N rfl rfl rfl (ov_ldI rfl underlying3 rfl rfl hp182 hg184) ?_
    refine lk (dt := some 51) R30_10_N rfl rfl rfl (opv_move rfl rfl rfl) ?_
    refine aops_nil ?_
    refine ago_blockE E30_36 ?_
    refine ago_loopE E30_37 ?_
    obtain ⟨n, H⟩ := H
    exact S30_2_ok Q E  n _ p_0 s_2 x183 0 aw167 h0 h2 rfl rfl H
theorem S30_1_ok (Q : Unit → AW → Prop) (E : List PanicEntry → AW → Prop)  : ∀ (n : Nat) (ρ : Env) (p_0 : Value) (s_2 : Value) (n_3 : Int) (t_13 : Value) (t_14 : Int) (t_15 : Int) (aw : AW) (h0 : ρ 0 = p_0) (h2 : ρ 2 = s_2) (h3 : ρ 3 = .int .i64 n_3) (h13 : ρ 13 = t_13) (h14 : ρ 14 = .int .i64 t_14) (h15 : ρ 15 = .int .i64 t_15), S30_1 Q E  n p_0 s_2 n_3 t_13 t_14 t_15 aw →
    AGo prog 75 [.code C30_9, .inLoop C30_9, .inBlock 0, .code C30_25] ρ [] aw (RR prog f30 75 sh30 Q E)
  | 0, _, _, _, _, _, _, _, _, _, _, _, _, _, _ => fun H => H.elim
  | n + 1, ρ, p_0, s_2, n_3, t_13, t_14, t_15, aw, h0, h2, h3, h13, h14, h15 => fun H => S30_1s_ok Q E  _ (S30_1_ok Q E  n) ρ p_0 s_2 n_3 t_13 t_14 t_15 aw h0 h2 h3 h13 h14 h15 H
theorem S30_0_ok (Q : Unit → AW → Prop) (E : List PanicEntry → AW → Prop)  (ρ : Env) (p_0 : Value) (aw : AW) (h0 : ρ 0 = p_0) (H : S30_0 Q E  p_0 aw) :
    AGo prog 75 [.code C30_0] ρ [] aw (RR prog f30 75 sh30 Q E) := by
  unfold S30_0 at H
  refine ago_seqE E30_0 ?_
  refine ago_regE E30_1 (l := [0, 1, 2, 3]) rfl ?_
  refine lk (dt := some 7) R30_0_N rfl rfl rfl (opv_move rfl rfl h0) ?_
  obtain ⟨hp185, H⟩ := H
  refine lk (dt := some 8) R30_0_N rfl rfl rfl (ov_nck rfl rfl rfl hp185) ?_
  obtain ⟨b187, i188, p186, hp189, hv190, H⟩ := H
  refine lk (dt := some 9) R30_0_N rfl rfl rfl (ov_fldA rfl rfl underlying76 rfl sz30 (by decide) rfl hp189 rfl hv190) ?_
  refine lk (dt := some 2) R30_0_N rfl rfl rfl (opv_assign rfl rfl rfl) ?_
  refine aops_nil ?_
  refine ago_seqE E30_2 ?_
  refine ago_regE E30_3 (l := [0]) rfl ?_
  refine lk (dt := some 3) R30_1_N rfl rfl rfl (opv_assign rfl rfl rfl) ?_
  refine aops_nil ?_
  refine ago_seqE E30_4 ?_
  refine ago_seqE E30_5 ?_
  refine ago_regE E30_6 (l := [0, 1, 2, 3, 4, 5]) rfl ?_
  refine lk (dt := some 10) R30_2_N rfl rfl rfl (opv_move rfl rfl rfl) ?_
  obtain ⟨hp191, H⟩ := H
  refine lk (dt := some 11) R30_2_N rfl rfl rfl (ov_nck rfl rfl rfl hp191) ?_
  obtain ⟨b193, i194, p192, hp195, hv196, H⟩ := H
  refine lk (dt := some 12) R30_2_N rfl rfl rfl (ov_fldA rfl rfl underlying30 rfl sz27 (by decide) rfl hp195 rfl hv196) ?_
  obtain ⟨b197, i198, x200, hp199, hg201, H⟩ := H
  refine lk (dt := some 13) R30_2_N rfl rfl rfl (ov_ldV rfl underlying27 rfl rfl rfl hp199 hg201) ?_
  obtain ⟨q203, l204, c205, n202, hv206, hn207, H⟩ := H
  refine lk (dt := some 14) R30_2_N rfl rfl rfl (ov_len rfl rfl rfl underlying27 rfl hv206 hn207) ?_
  refine lk (dt := some 15) R30_2_N rfl rfl rfl (opv_move rfl rfl rfl) ?_
  refine aops_nil ?_
  refine ago_blockE E30_7 ?_
  refine ago_loopE E30_8 ?_
  obtain ⟨n, H⟩ := H
  exact S30_1_ok Q E  n _ p_0 p186 0 x200 n202 0 aw h0 rfl rfl rfl rfl rfl H
theorem F30_ok {Q : Unit → AW → Prop} {E : List PanicEntry → AW → Prop} (p_0 : Value) (aw : AW) (H : S30_0 Q E p_0 aw) : CallP prog 30 [p_0] aw sh30 Q E :=
  callP_of func30 C30_is rfl (Nat.le_of_ble_eq_true rfl) (S30_0_ok Q E _ p_0 aw rfl H)
end
end Go.Proofs.Try
