/- Printed by a program of the prover: what the Go functions of this seat do, in steps. -/
import Derived.Test.YtfdfakapkhflcaaBaF
import Derived.Test.YtfdfakapkhflcaaBaC
import Derived.Test.YtfdfakapkhflcaaBaC2
set_option linter.unusedSectionVars false
set_option linter.unusedSimpArgs false
set_option linter.unusedVariables false
namespace Go.Proofs.Try
open Go Go.Am Go.RowKit
set_option maxHeartbeats 4000000
set_option maxRecDepth 100000
noncomputable section
variable [SymE]
def C4_0 : Code := bodyOf f4
theorem C4_is : f4.body = some C4_0 := by kernel_rfl
def C4_1 : Code := cl C4_0
def R4_0 : Array Oper := regOps C4_1
def C4_2 : Code := cr C4_0
def C4_3 : Code := cl C4_2
def C4_4 : Code := cl C4_3
def R4_1 : Array Oper := regOps C4_4
def C4_5 : Code := cr C4_3
def C4_6 : Code := cl C4_5
def C4_7 : Code := cl C4_6
def R4_2 : Array Oper := regOps C4_7
def C4_8 : Code := cr C4_6
def C4_9 : Code := cr C4_5
def C4_10 : Code := cr C4_2
def C4_11 : Code := cl C4_10
def R4_3 : Array Oper := regOps C4_11
def C4_12 : Code := cr C4_10
def C4_13 : Code := cl C4_12
def R4_4 : Array Oper := regOps C4_13
def C4_14 : Code := cr C4_12
def C4_15 : Code := cl C4_14
def R4_5 : Array Oper := regOps C4_15
def C4_16 : Code := cr C4_14
theorem R4_0_N : dstsOk 34 R4_0 = true := by decide +kernel
theorem E4_1 : C4_1 = .region 0 R4_0 false := rfl
theorem R4_1_N : dstsOk 34 R4_1 = true := by decide +kernel
theorem E4_4 : C4_4 = .region 1 R4_1 false := rfl
theorem R4_2_N : dstsOk 34 R4_2 = true := by decide +kernel
theorem E4_7 : C4_7 = .region 2 R4_2 false := rfl
theorem E4_8 : C4_8 = .ret := rfl
theorem E4_6 : C4_6 = .seq C4_7 C4_8 := rfl
theorem E4_9 : C4_9 = .skip := rfl
theorem E4_5 : C4_5 = .cond (.tmp 13) C4_6 C4_9 := rfl
theorem E4_3 : C4_3 = .seq C4_4 C4_5 := rfl
theorem R4_3_N : dstsOk 34 R4_3 = true := by decide +kernel
theorem E4_11 : C4_11 = .region 3 R4_3 false := rfl
theorem R4_4_N : dstsOk 34 R4_4 = true := by decide +kernel
theorem E4_13 : C4_13 = .region 4 R4_4 false := rfl
theorem R4_5_N : dstsOk 34 R4_5 = true := by decide +kernel
theorem R4_5_O : linOk R4_5 [0, 1, 2, 3, 4, 6] [(5, [6], []), (7, [], [8, 9])] = true := by decide +kernel
theorem E4_15 : C4_15 = .region 5 R4_5 true := rfl
theorem E4_16 : C4_16 = .ret := rfl
theorem E4_14 : C4_14 = .seq C4_15 C4_16 := rfl
theorem E4_12 : C4_12 = .seq C4_13 C4_14 := rfl
theorem E4_10 : C4_10 = .seq C4_11 C4_12 := rfl
theorem E4_2 : C4_2 = .seq C4_3 C4_10 := rfl
theorem E4_0 : C4_0 = .seq C4_1 C4_2 := rfl
def S4_1 (Q : Bool → AW → Prop) (E : List PanicEntry → AW → Prop)  (p_0 : Value) (t_13 : Bool) (aw : AW) : Prop :=
  cnd t_13 (CallP prog 7 [] aw sh7 (fun r2 aw3 =>
  Q r2 aw3) E) (CallP prog 11 [p_0] aw sh11 (fun r4 aw5 =>
  alc aw5 [.int .u8 0, .int .i64 0, .int .i64 0, .int .u64 0, .int .u64 0, .int .u64 0, .int .u64 0, .bool false, (.slice none 0 0), (.slice none 0 0)] 43 0 fun p6 aw7 =>
  st aw7 p6 [.int .u8 r4.1, .int .i64 r4.2.1, .int .i64 r4.2.2.1, .int .u64 r4.2.2.2.1, .int .u64 r4.2.2.2.2.1, .int .u64 r4.2.2.2.2.2.1, .int .u64 r4.2.2.2.2.2.2.1, .bool r4.2.2.2.2.2.2.2.1, r4.2.2.2.2.2.2.2.2.1, r4.2.2.2.2.2.2.2.2.2.1] fun aw10 =>
  CallP prog 12 [p_0] aw10 sh12 (fun r17 aw18 =>
  alc aw18 [.int .u8 0, .int .i64 0, .int .i64 0, .int .u64 0, .int .u64 0, .int .u64 0, .int .u64 0, .bool false, (.slice none 0 0), (.slice none 0 0)] 46 0 fun p19 aw20 =>
  st aw20 p19 [.int .u8 r17.1, .int .i64 r17.2.1, .int .i64 r17.2.2.1, .int .u64 r17.2.2.2.1, .int .u64 r17.2.2.2.2.1, .int .u64 r17.2.2.2.2.2.1, .int .u64 r17.2.2.2.2.2.2.1, .bool r17.2.2.2.2.2.2.2.1, r17.2.2.2.2.2.2.2.2.1, r17.2.2.2.2.2.2.2.2.2.1] fun aw23 =>
  cnd (decide (r4.2.2.2.2.2.2.2.2.2.2 = r17.2.2.2.2.2.2.2.2.2.2)) (ptr p6 fun b31 i32 =>
  gI .u8 aw23 b31 i32 fun c34 =>
  gI .i64 aw23 b31 (i32 + 1) fun c35 =>
  gI .i64 aw23 b31 (i32 + 2) fun c36 =>
  gI .u64 aw23 b31 (i32 + 3) fun c37 =>
  gI .u64 aw23 b31 (i32 + 4) fun c38 =>
  gI .u64 aw23 b31 (i32 + 5) fun c39 =>
  gI .u64 aw23 b31 (i32 + 6) fun c40 =>
  gB aw23 b31 (i32 + 7) fun c41 =>
  gV aw23 b31 (i32 + 8) fun c42 =>
  gV aw23 b31 (i32 + 9) fun c43 =>
  ptr p19 fun b54 i55 =>
  gI .u8 aw23 b54 i55 fun c57 =>
  gI .i64 aw23 b54 (i55 + 1) fun c58 =>
  gI .i64 aw23 b54 (i55 + 2) fun c59 =>
  gI .u64 aw23 b54 (i55 + 3) fun c60 =>
  gI .u64 aw23 b54 (i55 + 4) fun c61 =>
  gI .u64 aw23 b54 (i55 + 5) fun c62 =>
  gI .u64 aw23 b54 (i55 + 6) fun c63 =>
  gB aw23 b54 (i55 + 7) fun c64 =>
  gV aw23 b54 (i55 + 8) fun c65 =>
  gV aw23 b54 (i55 + 9) fun c66 =>
  CallP prog 14 [.agg #[.int .u8 c34, .int .i64 c35, .int .i64 c36, .int .u64 c37, .int .u64 c38, .int .u64 c39, .int .u64 c40, .bool c41, c42, c43]] aw23 sh14 (fun r77 aw78 =>
  aw78.get b54 i55 = some (.int .u8 c57) ∧ aw78.get b54 (i55 + 1) = some (.int .i64 c58) ∧ aw78.get b54 (i55 + 2) = some (.int .i64 c59) ∧ aw78.get b54 (i55 + 3) = some (.int .u64 c60) ∧ aw78.get b54 (i55 + 4) = some (.int .u64 c61) ∧ aw78.get b54 (i55 + 5) = some (.int .u64 c62) ∧ aw78.get b54 (i55 + 6) = some (.int .u64 c63) ∧ aw78.get b54 (i55 + 7) = some (.bool c64) ∧ aw78.get b54 (i55 + 8) = some (c65) ∧ aw78.get b54 (i55 + 9) = some (c66) ∧ CallP prog 13 [.agg #[.int .u8 r77.1, .int .i64 r77.2.1, .int .i64 r77.2.2.1, .int .u64 r77.2.2.2.1, .int .u64 r77.2.2.2.2.1, .int .u64 r77.2.2.2.2.2.1, .int .u64 r77.2.2.2.2.2.2.1, .bool r77.2.2.2.2.2.2.2.1, r77.2.2.2.2.2.2.2.2.1, r77.2.2.2.2.2.2.2.2.2], .agg #[.int .u8 c57, .int .i64 c58, .int .i64 c59, .int .u64 c60, .int .u64 c61, .int .u64 c62, .int .u64 c63, .bool c64, c65, c66]] aw78 sh13 (fun r79 aw80 =>
  Q r79 aw80) E) E) (Q false aw23)) E) E)
def S4_0 (Q : Bool → AW → Prop) (E : List PanicEntry → AW → Prop)  (p_0 : Value) (aw : AW) : Prop :=
  CallP prog 7 [] aw sh7 (fun r81 aw82 =>
  cnd (!r81) (S4_1 Q E  p_0 true aw82) (slen p_0 fun n84 =>
  S4_1 Q E  p_0 (decide (5000 < n84)) aw82)) E
theorem S4_1_ok (Q : Bool → AW → Prop) (E : List PanicEntry → AW → Prop)  (ρ : Env) (p_0 : Value) (t_13 : Bool) (aw : AW) (h0 : ρ 0 = p_0) (h13 : ρ 13 = .bool t_13) (H : S4_1 Q E  p_0 t_13 aw) :
    AGo prog 34 [.code C4_5, .code C4_10] ρ [] aw (RR prog f4 34 sh4 Q E) := by
  unfold S4_1 at H
  refine ago_condE  E4_5 rfl h13 (fun hb1 => ?_) (fun hb1 => ?_)
  · replace H := cnd_t H hb1
    refine ago_seqE E4_6 ?_
    refine ago_regE E4_7 (l := [0, 1]) rfl ?_
    refine lk_call (dt := some 14) R4_2_N rfl rfl rfl (opc_of rfl rfl is7 rfl) H (fun _ _ h => ⟨rfl, h⟩) fun r2 aw3 H => ?_
    refine lk (dt := some 2) R4_2_N rfl rfl rfl (opv_assign rfl rfl rfl) ?_
    refine aops_nil ?_
    exact ago_retE E4_8 (r := r2) (ares_1 rfl (oneT rfl)) rfl H
  · replace H := cnd_f H hb1
    refine ago_skipE E4_9 ?_
    refine ago_seqE E4_10 ?_
    refine ago_regE E4_11 (l := [0, 1, 2, 3, 4, 5, 6, 7]) rfl ?_
    refine lk (dt := some 16) R4_3_N rfl rfl rfl (opv_move rfl rfl h0) ?_
    refine lk_call (dt := some 17) R4_3_N rfl rfl rfl (opc_of rfl rfl is11 (ma_cons rfl rfl)) H (fun _ _ h => ⟨rfl, h⟩) fun r4 aw5 H => ?_
    refine lk (dt := some 15) R4_3_N rfl rfl rfl (opv_move rfl rfl rfl) ?_
    refine lk (dt := some 18) R4_3_N rfl rfl rfl (opv_extract rfl rfl rfl rfl) ?_
    refine lk (dt := some 19) R4_3_N rfl rfl rfl (opv_extract rfl rfl rfl rfl) ?_
    obtain ⟨p6, aw7, hp8, ha9, H⟩ := H
    refine lk (dt := some 3) R4_3_N rfl rfl rfl (ov_alloc rfl z43 rfl rfl hp8 ha9) ?_
    obtain ⟨b11, i12, aw10, hp13, hw14, ho15, ha16, H⟩ := H
    refine lk (dt := none) R4_3_N rfl rfl rfl (ov_st rfl rfl rfl rfl rfl rfl sz43 hp13 hw14 ho15 ha16) ?_
    refine lk (dt := some 4) R4_3_N rfl rfl rfl (opv_assign rfl rfl rfl) ?_
    refine aops_nil ?_
    refine ago_seqE E4_12 ?_
    refine ago_regE E4_13 (l := [0, 1, 2, 3, 4, 5, 6, 7]) rfl ?_
    refine lk (dt := some 21) R4_4_N rfl rfl rfl (opv_move rfl rfl h0) ?_
    refine lk_call (dt := some 22) R4_4_N rfl rfl rfl (opc_of rfl rfl is12 (ma_cons rfl rfl)) H (fun _ _ h => ⟨rfl, h⟩) fun r17 aw18 H => ?_
    refine lk (dt := some 20) R4_4_N rfl rfl rfl (opv_move rfl rfl rfl) ?_
    refine lk (dt := some 23) R4_4_N rfl rfl rfl (opv_extract rfl rfl rfl rfl) ?_
    refine lk (dt := some 24) R4_4_N rfl rfl rfl (opv_extract rfl rfl rfl rfl) ?_
    obtain ⟨p19, aw20, hp21, ha22, H⟩ := H
    refine lk (dt := some 5) R4_4_N rfl rfl rfl (ov_alloc rfl z46 rfl rfl hp21 ha22) ?_
    obtain ⟨b24, i25, aw23, hp26, hw27, ho28, ha29, H⟩ := H
    refine lk (dt := none) R4_4_N rfl rfl rfl (ov_st rfl rfl rfl rfl rfl rfl sz46 hp26 hw27 ho28 ha29) ?_
    refine lk (dt := some 6) R4_4_N rfl rfl rfl (opv_assign rfl rfl rfl) ?_
    refine aops_nil ?_
    refine ago_seqE E4_14 ?_
    refine ago_cut (fun ρ => ρ 3 = p6 ∧ ρ 4 = .int .i64 r4.2.2.2.2.2.2.2.2.2.2 ∧ ρ 5 = p19 ∧ ρ 6 = .int .i64 r17.2.2.2.2.2.2.2.2.2.2 ∧ True) ⟨rfl, rfl, rfl, rfl, trivial⟩ (fun ρ ⟨h3, h4, h5, h6, _⟩ => ?_)
    rcases Bool.eq_false_or_eq_true (decide (r4.2.2.2.2.2.2.2.2.2.2 = r17.2.2.2.2.2.2.2.2.2.2)) with hb30 | hb30
    · replace H := cnd_t H hb30
      obtain ⟨b31, i32, hp33, c34, hg44, c35, hg45, c36, hg46, c37, hg47, c38, hg48, c39, hg49, c40, hg50, c41, hg51, c42, hg52, c43, hg53, H⟩ := H
      obtain ⟨b54, i55, hp56, c57, hg67, c58, hg68, c59, hg69, c60, hg70, c61, hg71, c62, hg72, c63, hg73, c64, hg74, c65, hg75, c66, hg76, H⟩ := H
      refine ago_drawH (p := [0, 1, 2, 3, 4, 6]) (tl := [(5, [6], []), (7, [], [8, 9])]) (hv := [(0, Value.int .i64 r4.2.2.2.2.2.2.2.2.2.2), (1, Value.int .i64 r17.2.2.2.2.2.2.2.2.2.2), (2, Value.bool (decide (r4.2.2.2.2.2.2.2.2.2.2 = r17.2.2.2.2.2.2.2.2.2.2))), (3, Value.bool (decide (r4.2.2.2.2.2.2.2.2.2.2 = r17.2.2.2.2.2.2.2.2.2.2))), (4, Value.agg #[.int .u8 c34, .int .i64 c35, .int .i64 c36, .int .u64 c37, .int .u64 c38, .int .u64 c39, .int .u64 c40, .bool c41, c42, c43]), (6, Value.agg #[.int .u8 c57, .int .i64 c58, .int .i64 c59, .int .u64 c60, .int .u64 c61, .int .u64 c62, .int .u64 c63, .bool c64, c65, c66])]) E4_15 mixed R4_5_N R4_5_O rfl (pv_cons rfl (pv_cons rfl (pv_cons rfl (pv_cons rfl (pv_cons rfl (pv_cons rfl (pv_nil _)))))))
        (ffc (d := 25) (v := .int .i64 r4.2.2.2.2.2.2.2.2.2.2) (hd_v rfl fun ρ hρ => ⟨rfl, opv_move rfl rfl ((hρ 4 (lmem rfl)).trans h4)⟩) rfl rfl
        (ffc (d := 26) (v := .int .i64 r17.2.2.2.2.2.2.2.2.2.2) (hd_v rfl fun ρ hρ => ⟨rfl, opv_move rfl rfl ((hρ 6 (lmem rfl)).trans h6)⟩) rfl rfl
        (ffc (d := 27) (v := .bool (decide (r4.2.2.2.2.2.2.2.2.2.2 = r17.2.2.2.2.2.2.2.2.2.2))) (hd_v rfl fun ρ hρ => ⟨rfl, opv_eqI rfl rfl rfl ((hρ 25 (lmem rfl)).trans rfl) ((hρ 26 (lmem rfl)).trans rfl)⟩) rfl rfl
        (ffc (d := 28) (v := .bool (decide (r4.2.2.2.2.2.2.2.2.2.2 = r17.2.2.2.2.2.2.2.2.2.2))) (hd_v rfl fun ρ hρ => ⟨rfl, opv_move rfl rfl ((hρ 27 (lmem rfl)).trans rfl)⟩) rfl rfl
        (ffc (d := 29) (v := .agg #[.int .u8 c34, .int .i64 c35, .int .i64 c36, .int .u64 c37, .int .u64 c38, .int .u64 c39, .int .u64 c40, .bool c41, c42, c43]) (hd_v rfl fun ρ hρ => ⟨⟨_, rfl, .inl ⟨_, ((hρ 28 (lmem rfl)).trans rfl), gq hb30 rfl⟩⟩, ov_ldN rfl underlying43 rfl sz43 rfl ((hρ 3 (lmem rfl)).trans h3) hp33 (getN_cons hg44 (getN_cons hg45 (getN_cons hg46 (getN_cons hg47 (getN_cons hg48 (getN_cons hg49 (getN_cons hg50 (getN_cons hg51 (getN_cons hg52 (getN_cons hg53 getN_nil))))))))))⟩) rfl rfl
        (ffc (d := 31) (v := .agg #[.int .u8 c57, .int .i64 c58, .int .i64 c59, .int .u64 c60, .int .u64 c61, .int .u64 c62, .int .u64 c63, .bool c64, c65, c66]) (hd_v rfl fun ρ hρ => ⟨⟨_, rfl, .inl ⟨_, ((hρ 28 (lmem rfl)).trans rfl), gq hb30 rfl⟩⟩, ov_ldN rfl underlying46 rfl sz46 rfl ((hρ 5 (lmem rfl)).trans h5) hp56 (getN_cons hg67 (getN_cons hg68 (getN_cons hg69 (getN_cons hg70 (getN_cons hg71 (getN_cons hg72 (getN_cons hg73 (getN_cons hg74 (getN_cons hg75 (getN_cons hg76 getN_nil))))))))))⟩) rfl rfl
        ffn)))))) ?_
      refine lt_call (dt := some 30) rfl rfl (fun ρ hρ => ⟨⟨_, rfl, .inl ⟨_, ((hρ 28 (lmem rfl)).trans rfl), gq hb30 rfl⟩⟩, opc_of rfl rfl is14 (ma_cons ((hρ 29 (lmem rfl)).trans rfl) rfl)⟩) H (fun _ _ h _ => ⟨rfl, h⟩) fun r77 aw78 H => ?_
      obtain ⟨hg67, H⟩ := H
      obtain ⟨hg68, H⟩ := H
      obtain ⟨hg69, H⟩ := H
      obtain ⟨hg70, H⟩ := H
      obtain ⟨hg71, H⟩ := H
      obtain ⟨hg72, H⟩ := H
      obtain ⟨hg73, H⟩ := H
      obtain ⟨hg74, H⟩ := H
      obtain ⟨hg75, H⟩ := H
      obtain ⟨hg76, H⟩ := H
      refine lt_next (l := [6]) (hv := []) rfl rfl (pv_nil _)
        (ffc (d := 31) (v := .agg #[.int .u8 c57, .int .i64 c58, .int .i64 c59, .int .u64 c60, .int .u64 c61, .int .u64 c62, .int .u64 c63, .bool c64, c65, c66]) (hd_v rfl fun ρ hρ => ⟨⟨_, rfl, .inl ⟨_, ((hρ 28 (lmem rfl)).trans rfl), gq hb30 rfl⟩⟩, ov_ldN rfl underlying46 rfl sz46 rfl ((hρ 5 (lmem rfl)).trans h5) hp56 (getN_cons hg67 (getN_cons hg68 (getN_cons hg69 (getN_cons hg70 (getN_cons hg71 (getN_cons hg72 (getN_cons hg73 (getN_cons hg74 (getN_cons hg75 (getN_cons hg76 getN_nil))))))))))⟩) rfl rfl
        ffn) ?_
      refine lt_call (dt := some 32) rfl rfl (fun ρ hρ => ⟨⟨_, rfl, .inl ⟨_, ((hρ 28 (lmem rfl)).trans rfl), gq hb30 rfl⟩⟩, opc_of rfl rfl is13 (ma_cons ((hρ 30 (lmem rfl)).trans rfl) (ma_cons ((hρ 31 (lmem rfl)).trans rfl) rfl))⟩) H (fun _ _ h _ => ⟨rfl, h⟩) fun r79 aw80 H => ?_
      refine lt_next (l := [8, 9]) (hv := [(8, Value.bool r79), (9, Value.bool r79)]) rfl rfl (pv_cons rfl (pv_cons rfl (pv_nil _)))
        (ffc (d := 33) (v := .bool r79) (hd_v rfl fun ρ hρ => ⟨rfl, ov_pickT rfl rfl rfl rfl ((hρ 28 (lmem rfl)).trans rfl) hb30 ((hρ 32 (lmem rfl)).trans rfl)⟩) rfl rfl
        (ffc (d := 2) (v := .bool r79) (hd_v rfl fun ρ hρ => ⟨rfl, opv_assign rfl rfl ((hρ 33 (lmem rfl)).trans rfl)⟩) rfl rfl
        ffn)) ?_
      refine lt_end ?_
      exact ago_retE E4_16 (r := r79) (ares_1 rfl (oneT rfl)) rfl H
    · replace H := cnd_f H hb30
      refine ago_drawH (p := [0, 1, 2, 3, 4, 6]) (tl := [(5, [6], []), (7, [], [8, 9])]) (hv := [(0, Value.int .i64 r4.2.2.2.2.2.2.2.2.2.2), (1, Value.int .i64 r17.2.2.2.2.2.2.2.2.2.2), (2, Value.bool (decide (r4.2.2.2.2.2.2.2.2.2.2 = r17.2.2.2.2.2.2.2.2.2.2))), (3, Value.bool (decide (r4.2.2.2.2.2.2.2.2.2.2 = r17.2.2.2.2.2.2.2.2.2.2))), (4, undef), (6, undef)]) E4_15 mixed R4_5_N R4_5_O rfl (pv_cons rfl (pv_cons rfl (pv_cons rfl (pv_cons rfl (pv_cons rfl (pv_cons rfl (pv_nil _)))))))
        (ffc (d := 25) (v := .int .i64 r4.2.2.2.2.2.2.2.2.2.2) (hd_v rfl fun ρ hρ => ⟨rfl, opv_move rfl rfl ((hρ 4 (lmem rfl)).trans h4)⟩) rfl rfl
        (ffc (d := 26) (v := .int .i64 r17.2.2.2.2.2.2.2.2.2.2) (hd_v rfl fun ρ hρ => ⟨rfl, opv_move rfl rfl ((hρ 6 (lmem rfl)).trans h6)⟩) rfl rfl
        (ffc (d := 27) (v := .bool (decide (r4.2.2.2.2.2.2.2.2.2.2 = r17.2.2.2.2.2.2.2.2.2.2))) (hd_v rfl fun ρ hρ => ⟨rfl, opv_eqI rfl rfl rfl ((hρ 25 (lmem rfl)).trans rfl) ((hρ 26 (lmem rfl)).trans rfl)⟩) rfl rfl
        (ffc (d := 28) (v := .bool (decide (r4.2.2.2.2.2.2.2.2.2.2 = r17.2.2.2.2.2.2.2.2.2.2))) (hd_v rfl fun ρ hρ => ⟨rfl, opv_move rfl rfl ((hρ 27 (lmem rfl)).trans rfl)⟩) rfl rfl
        (ffc (d := 29) (v := undef) (hd_s rfl (fun ρ hρ => ⟨_, rfl, .inl ⟨_, ((hρ 28 (lmem rfl)).trans rfl), gq hb30 rfl⟩⟩) rfl) rfl rfl
        (ffc (d := 31) (v := undef) (hd_s rfl (fun ρ hρ => ⟨_, rfl, .inl ⟨_, ((hρ 28 (lmem rfl)).trans rfl), gq hb30 rfl⟩⟩) rfl) rfl rfl
        ffn)))))) ?_
      refine lt_skip (dt := some 30) rfl rfl (fun ρ hρ => ⟨_, rfl, .inl ⟨_, ((hρ 28 (lmem rfl)).trans rfl), gq hb30 rfl⟩⟩) ?_
      refine lt_next (l := [6]) (hv := []) rfl rfl (pv_nil _)
        (ffc (d := 31) (v := undef) (hd_s rfl (fun ρ hρ => ⟨_, rfl, .inl ⟨_, ((hρ 28 (lmem rfl)).trans rfl), gq hb30 rfl⟩⟩) rfl) rfl rfl
        ffn) ?_
      refine lt_skip (dt := some 32) rfl rfl (fun ρ hρ => ⟨_, rfl, .inl ⟨_, ((hρ 28 (lmem rfl)).trans rfl), gq hb30 rfl⟩⟩) ?_
      refine lt_next (l := [8, 9]) (hv := [(8, Value.bool false), (9, Value.bool false)]) rfl rfl (pv_cons rfl (pv_cons rfl (pv_nil _)))
        (ffc (d := 33) (v := .bool false) (hd_v rfl fun ρ hρ => ⟨rfl, ov_pickF rfl rfl rfl rfl ((hρ 28 (lmem rfl)).trans rfl) hb30 rfl⟩) rfl rfl
        (ffc (d := 2) (v := .bool false) (hd_v rfl fun ρ hρ => ⟨rfl, opv_assign rfl rfl ((hρ 33 (lmem rfl)).trans rfl)⟩) rfl rfl
        ffn)) ?_
      refine lt_end ?_
      exact ago_retE E4_16 (r := false) (ares_1 rfl (oneT rfl)) rfl H
theorem S4_0_ok (Q : Bool → AW → Prop) (E : List PanicEntry → AW → Prop)  (ρ : Env) (p_0 : Value) (aw : AW) (h0 : ρ 0 = p_0) (H : S4_0 Q E  p_0 aw) :
    AGo prog 34 [.code C4_0] ρ [] aw (RR prog f4 34 sh4 Q E) := by
  unfold S4_0 at H
  refine ago_seqE E4_0 ?_
  refine ago_regE E4_1 (l := [0]) rfl ?_
  refine lk (dt := some 2) R4_0_N rfl rfl rfl (opv_assign rfl rfl rfl) ?_
  refine aops_nil ?_
  refine ago_seqE E4_2 ?_
  refine ago_seqE E4_3 ?_
  refine ago_regE E4_4 (l := [0, 1, 2, 3, 4, 5, 6]) rfl ?_
  refine lk_call (dt := some 7) R4_1_N rfl rfl rfl (opc_of rfl rfl is7 rfl) H (fun _ _ h => ⟨rfl, h⟩) fun r81 aw82 H => ?_
  refine lk (dt := some 8) R4_1_N rfl rfl rfl (opv_not rfl rfl rfl) ?_
  refine lk (dt := some 9) R4_1_N rfl rfl rfl (opv_move rfl rfl rfl) ?_
  rcases Bool.eq_false_or_eq_true (!r81) with hb83 | hb83
  · replace H := cnd_t H hb83
    refine lk_skip (dt := some 10) R4_1_N rfl rfl ⟨_, rfl, .inl ⟨_, rfl, gq hb83 rfl⟩⟩ ?_
    refine lk_skip (dt := some 11) R4_1_N rfl rfl ⟨_, rfl, .inl ⟨_, rfl, gq hb83 rfl⟩⟩ ?_
    refine lk_skip (dt := some 12) R4_1_N rfl rfl ⟨_, rfl, .inl ⟨_, rfl, gq hb83 rfl⟩⟩ ?_
    refine lk (dt := some 13) R4_1_N rfl rfl rfl (ov_pickT rfl rfl rfl rfl rfl hb83 rfl) ?_
    refine aops_nil ?_
    exact S4_1_ok Q E  _ p_0 true aw82 h0 rfl H
  · replace H := cnd_f H hb83
    refine lk (dt := some 10) R4_1_N rfl rfl ⟨_, rfl, .inl ⟨_, rfl, gq hb83 rfl⟩⟩ (opv_move rfl rfl h0) ?_
    obtain ⟨q85, l86, c87, n84, hv88, hn89, H⟩ := H
    refine lk (dt := some 11) R4_1_N rfl rfl ⟨_, rfl, .inl ⟨_, rfl, gq hb83 rfl⟩⟩ (ov_len rfl rfl rfl underlying25 rfl hv88 hn89) ?_
    refine lk (dt := some 12) R4_1_N rfl rfl ⟨_, rfl, .inl ⟨_, rfl, gq hb83 rfl⟩⟩ (opv_gt rfl rfl rfl rfl rfl) ?_
    refine lk (dt := some 13) R4_1_N rfl rfl rfl (ov_pickF rfl rfl rfl rfl rfl hb83 rfl) ?_
    refine aops_nil ?_
    exact S4_1_ok Q E  _ p_0 (decide (5000 < n84)) aw82 h0 rfl H
theorem F4_ok {Q : Bool → AW → Prop} {E : List PanicEntry → AW → Prop} (p_0 : Value) (aw : AW) (H : S4_0 Q E p_0 aw) : CallP prog 4 [p_0] aw sh4 Q E :=
  callP_of func4 C4_is rfl (Nat.le_of_ble_eq_true rfl) (S4_0_ok Q E _ p_0 aw rfl H)
end
end Go.Proofs.Try
