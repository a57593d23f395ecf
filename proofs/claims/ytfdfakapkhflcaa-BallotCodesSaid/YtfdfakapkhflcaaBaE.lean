/- Printed by a program of the prover: what the Go functions of this seat do, in steps. -/
import Derived.Test.YtfdfakapkhflcaaBaF
import Derived.Test.YtfdfakapkhflcaaBaC
import Derived.Test.YtfdfakapkhflcaaBaW
set_option linter.unusedSectionVars false
set_option linter.unusedSimpArgs false
set_option linter.unusedVariables false
namespace Go.Proofs.Try
open Go Go.Am Go.RowKit
set_option maxHeartbeats 4000000
set_option maxRecDepth 100000
noncomputable section
variable [SymE]
def C15_0 : Code := bodyOf f15
theorem C15_is : f15.body = some C15_0 := by kernel_rfl
def C15_1 : Code := cl C15_0
def R15_0 : Array Oper := regOps C15_1
def C15_2 : Code := cr C15_0
def C15_3 : Code := cl C15_2
def R15_1 : Array Oper := regOps C15_3
def C15_4 : Code := cr C15_2
def C15_5 : Code := cl C15_4
def R15_2 : Array Oper := regOps C15_5
def C15_6 : Code := cr C15_4
def C15_7 : Code := cl C15_6
def C15_8 : Code := cl C15_7
def R15_3 : Array Oper := regOps C15_8
def C15_9 : Code := cr C15_7
def C15_10 : Code := cl C15_9
def R15_4 : Array Oper := regOps C15_10
def C15_11 : Code := cr C15_9
def R15_5 : Array Oper := regOps C15_11
def C15_12 : Code := cr C15_6
def C15_13 : Code := cl C15_12
def R15_6 : Array Oper := regOps C15_13
def C15_14 : Code := cr C15_12
def C15_15 : Code := cl C15_14
def C15_16 : Code := cl C15_15
def R15_7 : Array Oper := regOps C15_16
def C15_17 : Code := cr C15_15
def C15_18 : Code := cl C15_17
def C15_19 : Code := cl C15_18
def C15_20 : Code := cl C15_19
def R15_8 : Array Oper := regOps C15_20
def C15_21 : Code := cr C15_19
def C15_22 : Code := cl C15_21
def C15_23 : Code := cl C15_22
def C15_24 : Code := cr C15_22
def C15_25 : Code := cr C15_21
def C15_26 : Code := cl C15_25
def C15_27 : Code := cl C15_26
def C15_28 : Code := cl C15_27
def R15_9 : Array Oper := regOps C15_28
def C15_29 : Code := cr C15_27
def R15_10 : Array Oper := regOps C15_29
def C15_30 : Code := cr C15_25
def R15_11 : Array Oper := regOps C15_30
def C15_31 : Code := cr C15_14
def C15_32 : Code := cl C15_31
def R15_12 : Array Oper := regOps C15_32
def C15_33 : Code := cr C15_31
theorem R15_0_N : dstsOk 70 R15_0 = true := by decide +kernel
theorem E15_1 : C15_1 = .region 0 R15_0 false := rfl
theorem R15_1_N : dstsOk 70 R15_1 = true := by decide +kernel
theorem E15_3 : C15_3 = .region 1 R15_1 false := rfl
theorem R15_2_N : dstsOk 70 R15_2 = true := by decide +kernel
theorem R15_2_O : linOk R15_2 [0, 1, 2, 3, 5, 6, 8, 9, 11, 12, 14, 15, 17, 18, 20, 21] [(4, [5, 6, 8, 9, 11, 12, 14, 15, 17, 18, 20, 21], []), (7, [8, 9, 11, 12, 14, 15, 17, 18, 20, 21], []), (10, [11, 12, 14, 15, 17, 18, 20, 21], []), (13, [14, 15, 17, 18, 20, 21], []), (16, [17, 18, 20, 21], []), (19, [20, 21], []), (22, [], [])] = true := by decide +kernel
theorem E15_5 : C15_5 = .region 2 R15_2 true := rfl
theorem R15_3_N : dstsOk 70 R15_3 = true := by decide +kernel
theorem E15_8 : C15_8 = .region 3 R15_3 false := rfl
theorem R15_4_N : dstsOk 70 R15_4 = true := by decide +kernel
theorem E15_10 : C15_10 = .region 4 R15_4 false := rfl
theorem R15_5_N : dstsOk 70 R15_5 = true := by decide +kernel
theorem E15_11 : C15_11 = .region 5 R15_5 false := rfl
theorem E15_9 : C15_9 = .cond (.tmp 32) C15_10 C15_11 := rfl
theorem E15_7 : C15_7 = .seq C15_8 C15_9 := rfl
theorem R15_6_N : dstsOk 70 R15_6 = true := by decide +kernel
theorem E15_13 : C15_13 = .region 6 R15_6 false := rfl
theorem R15_7_N : dstsOk 70 R15_7 = true := by decide +kernel
theorem E15_16 : C15_16 = .region 7 R15_7 false := rfl
theorem R15_8_N : dstsOk 70 R15_8 = true := by decide +kernel
theorem E15_20 : C15_20 = .region 8 R15_8 false := rfl
theorem E15_23 : C15_23 = .skip := rfl
theorem E15_24 : C15_24 = .exit 0 := rfl
theorem E15_22 : C15_22 = .cond (.tmp 47) C15_23 C15_24 := rfl
theorem R15_9_N : dstsOk 70 R15_9 = true := by decide +kernel
theorem E15_28 : C15_28 = .region 9 R15_9 false := rfl
theorem R15_10_N : dstsOk 70 R15_10 = true := by decide +kernel
theorem R15_10_O : linOk R15_10 [0, 1, 2, 4, 5, 7, 8, 10, 11] [(3, [4, 5, 7, 8, 10, 11], []), (6, [7, 8, 10, 11], []), (9, [10, 11], []), (12, [], [])] = true := by decide +kernel
theorem E15_29 : C15_29 = .region 10 R15_10 true := rfl
theorem E15_27 : C15_27 = .seq C15_28 C15_29 := rfl
theorem E15_26 : C15_26 = .block 1 C15_27 := rfl
theorem R15_11_N : dstsOk 70 R15_11 = true := by decide +kernel
theorem E15_30 : C15_30 = .region 11 R15_11 false := rfl
theorem E15_25 : C15_25 = .seq C15_26 C15_30 := rfl
theorem E15_21 : C15_21 = .seq C15_22 C15_25 := rfl
theorem E15_19 : C15_19 = .seq C15_20 C15_21 := rfl
theorem E15_18 : C15_18 = .loop C15_19 := rfl
theorem E15_17 : C15_17 = .block 0 C15_18 := rfl
theorem E15_15 : C15_15 = .seq C15_16 C15_17 := rfl
theorem R15_12_N : dstsOk 70 R15_12 = true := by decide +kernel
theorem E15_32 : C15_32 = .region 12 R15_12 false := rfl
theorem E15_33 : C15_33 = .ret := rfl
theorem E15_31 : C15_31 = .seq C15_32 C15_33 := rfl
theorem E15_14 : C15_14 = .seq C15_15 C15_31 := rfl
theorem E15_12 : C15_12 = .seq C15_13 C15_14 := rfl
theorem E15_6 : C15_6 = .seq C15_7 C15_12 := rfl
theorem E15_4 : C15_4 = .seq C15_5 C15_6 := rfl
theorem E15_2 : C15_2 = .seq C15_3 C15_4 := rfl
theorem E15_0 : C15_0 = .seq C15_1 C15_2 := rfl
def S15_2s (Q : Value → AW → Prop) (E : List PanicEntry → AW → Prop)  (nx2 : Value → Value → Value → Int → Int → AW → Prop) (m_1 : Value) (w_3 : Value) (t_44 : Value) (t_45 : Int) (t_46 : Int) (aw : AW) : Prop :=
  cnd (decide (t_46 < t_45)) (ixS t_44 t_46 4 fun p2 =>
  ptr p2 fun b11 i12 =>
  gI .u64 aw b11 i12 fun c14 =>
  gI .u64 aw b11 (i12 + 1) fun c15 =>
  gI .u64 aw b11 (i12 + 2) fun c16 =>
  gV aw b11 (i12 + 3) fun c17 =>
  alc aw [.int .u64 0, .int .u64 0, .int .u64 0, (.slice none 0 0)] 40 0 fun p22 aw23 =>
  st aw23 p22 [.int .u64 c14, .int .u64 c15, .int .u64 c16, c17] fun aw26 =>
  fldA p22 0 fun p33 =>
  ldI .u64 aw26 p33 fun x41 =>
  fldA p22 1 fun p43 =>
  ldI .u64 aw26 p43 fun x51 =>
  fldA p22 2 fun p53 =>
  ldI .u64 aw26 p53 fun x61 =>
  fldA p22 3 fun p63 =>
  ldV aw26 p63 fun x71 =>
  CallP prog 46 [w_3, .int .u64 x41] aw26 sh46 (fun r73 aw74 =>
  again1 aw74 p43 (.int .u64 x51) ∧ again1 aw74 p53 (.int .u64 x61) ∧ again1 aw74 p63 (x71) ∧ CallP prog 46 [r73, .int .u64 x51] aw74 sh46 (fun r75 aw76 =>
  again1 aw76 p53 (.int .u64 x61) ∧ again1 aw76 p63 (x71) ∧ CallP prog 46 [r75, .int .u64 x61] aw76 sh46 (fun r77 aw78 =>
  again1 aw78 p63 (x71) ∧ CallP prog 48 [r77, x71] aw78 sh48 (fun r79 aw80 =>
  nx2 m_1 w_3 t_44 t_45 (IntKind.i64.wrap (t_46 + 1)) aw80) E) E) E) E) (fldA m_1 9 fun p81 =>
  ldV aw p81 fun x89 =>
  CallP prog 48 [w_3, x89] aw sh48 (fun r91 aw92 =>
  CallP prog 50 [r91] aw92 sh50 (fun r93 aw94 =>
  CallP prog 49 [r93] aw94 sh49 (fun r95 aw96 =>
  Q r95 aw96) E) E) E)
def S15_2 (Q : Value → AW → Prop) (E : List PanicEntry → AW → Prop)  : Nat → Value → Value → Value → Int → Int → AW → Prop
  | 0 => fun _ _ _ _ _ _ => False
  | n + 1 => S15_2s Q E  (S15_2 Q E  n)
def S15_1 (Q : Value → AW → Prop) (E : List PanicEntry → AW → Prop)  (m_1 : Value) (w_3 : Value) (aw : AW) : Prop :=
  fldA m_1 8 fun p97 =>
  ldV aw p97 fun x105 =>
  slen x105 fun n107 =>
  CallP prog 46 [w_3, .int .u64 (IntKind.u64.wrap n107)] aw sh46 (fun r113 aw114 =>
  fldA m_1 8 fun p115 =>
  ldV aw114 p115 fun x123 =>
  slen x123 fun n125 =>
  ∃ n, S15_2 Q E  n m_1 w_3 x123 n125 0 aw114) E
def S15_0 (Q : Value → AW → Prop) (E : List PanicEntry → AW → Prop)  (m_0_0 : Int) (m_0_1 : Int) (m_0_2 : Int) (m_0_3 : Int) (m_0_4 : Int) (m_0_5 : Int) (m_0_6 : Int) (m_0_7 : Bool) (m_0_8 : Value) (m_0_9 : Value) (aw : AW) : Prop :=
  alc aw [.int .u8 m_0_0, .int .i64 m_0_1, .int .i64 m_0_2, .int .u64 m_0_3, .int .u64 m_0_4, .int .u64 m_0_5, .int .u64 m_0_6, .bool m_0_7, m_0_8, m_0_9] 43 0 fun p131 aw132 =>
  alc aw132 [(.slice none 0 0)] 98 0 fun p135 aw136 =>
  fldA p131 0 fun p139 =>
  ldI .u8 aw136 p139 fun x147 =>
  fldA p131 1 fun p149 =>
  ldI .i64 aw136 p149 fun x157 =>
  fldA p131 2 fun p159 =>
  ldI .i64 aw136 p159 fun x167 =>
  fldA p131 3 fun p169 =>
  ldI .u64 aw136 p169 fun x177 =>
  fldA p131 4 fun p179 =>
  ldI .u64 aw136 p179 fun x187 =>
  fldA p131 5 fun p189 =>
  ldI .u64 aw136 p189 fun x197 =>
  fldA p131 6 fun p199 =>
  ldI .u64 aw136 p199 fun x207 =>
  CallP prog 46 [p135, .int .u64 (IntKind.u64.wrap x147)] aw136 sh46 (fun r209 aw210 =>
  again1 aw210 p149 (.int .i64 x157) ∧ again1 aw210 p159 (.int .i64 x167) ∧ again1 aw210 p169 (.int .u64 x177) ∧ again1 aw210 p179 (.int .u64 x187) ∧ again1 aw210 p189 (.int .u64 x197) ∧ again1 aw210 p199 (.int .u64 x207) ∧ CallP prog 47 [r209, .int .i64 x157] aw210 sh47 (fun r211 aw212 =>
  again1 aw212 p159 (.int .i64 x167) ∧ again1 aw212 p169 (.int .u64 x177) ∧ again1 aw212 p179 (.int .u64 x187) ∧ again1 aw212 p189 (.int .u64 x197) ∧ again1 aw212 p199 (.int .u64 x207) ∧ CallP prog 47 [r211, .int .i64 x167] aw212 sh47 (fun r213 aw214 =>
  again1 aw214 p169 (.int .u64 x177) ∧ again1 aw214 p179 (.int .u64 x187) ∧ again1 aw214 p189 (.int .u64 x197) ∧ again1 aw214 p199 (.int .u64 x207) ∧ CallP prog 46 [r213, .int .u64 x177] aw214 sh46 (fun r215 aw216 =>
  again1 aw216 p179 (.int .u64 x187) ∧ again1 aw216 p189 (.int .u64 x197) ∧ again1 aw216 p199 (.int .u64 x207) ∧ CallP prog 46 [r215, .int .u64 x187] aw216 sh46 (fun r217 aw218 =>
  again1 aw218 p189 (.int .u64 x197) ∧ again1 aw218 p199 (.int .u64 x207) ∧ CallP prog 46 [r217, .int .u64 x197] aw218 sh46 (fun r219 aw220 =>
  again1 aw220 p199 (.int .u64 x207) ∧ CallP prog 46 [r219, .int .u64 x207] aw220 sh46 (fun r221 aw222 =>
  fldA p131 7 fun p223 =>
  ldB aw222 p223 fun x231 =>
  cnd x231 (CallP prog 46 [p135, .int .u64 1] aw222 sh46 (fun r234 aw235 =>
  S15_1 Q E  p131 p135 aw235) E) (CallP prog 46 [p135, .int .u64 0] aw222 sh46 (fun r236 aw237 =>
  S15_1 Q E  p131 p135 aw237) E)) E) E) E) E) E) E) E
theorem S15_2s_ok (Q : Value → AW → Prop) (E : List PanicEntry → AW → Prop)  (nx2 : Value → Value → Value → Int → Int → AW → Prop) (L2 : ∀ (ρ : Env) (m_1 : Value) (w_3 : Value) (t_44 : Value) (t_45 : Int) (t_46 : Int) (aw : AW) (h1 : ρ 1 = m_1) (h3 : ρ 3 = w_3) (h44 : ρ 44 = t_44) (h45 : ρ 45 = .int .i64 t_45) (h46 : ρ 46 = .int .i64 t_46), nx2 m_1 w_3 t_44 t_45 t_46 aw → AGo prog 70 [.code C15_19, .inLoop C15_19, .inBlock 0, .code C15_31] ρ [] aw (RR prog f15 70 sh15 Q E)) (ρ : Env) (m_1 : Value) (w_3 : Value) (t_44 : Value) (t_45 : Int) (t_46 : Int) (aw : AW) (h1 : ρ 1 = m_1) (h3 : ρ 3 = w_3) (h44 : ρ 44 = t_44) (h45 : ρ 45 = .int .i64 t_45) (h46 : ρ 46 = .int .i64 t_46) (H : S15_2s Q E  nx2 m_1 w_3 t_44 t_45 t_46 aw) :
    AGo prog 70 [.code C15_19, .inLoop C15_19, .inBlock 0, .code C15_31] ρ [] aw (RR prog f15 70 sh15 Q E) := by
  unfold S15_2s at H
  refine ago_seqE E15_19 ?_
  refine ago_regE E15_20 (l := [0]) rfl ?_
  refine lk (dt := some 47) R15_8_N rfl rfl rfl (opv_lt rfl rfl rfl h46 h45) ?_
  refine aops_nil ?_
  refine ago_seqE E15_21 ?_
  refine ago_condE  E15_22 rfl rfl (fun hb1 => ?_) (fun hb1 => ?_)
  · replace H := cnd_t H hb1
    refine ago_skipE E15_23 ?_
    refine ago_seqE E15_25 ?_
    refine ago_blockE E15_26 ?_
    refine ago_seqE E15_27 ?_
    refine ago_regE E15_28 (l := [0, 1, 2, 3]) rfl ?_
    obtain ⟨b3, i4, l5, c6, p2, hp7, h08, hj9, hv10, H⟩ := H
    refine lk (dt := some 48) R15_9_N rfl rfl rfl (ov_ixS rfl rfl rfl underlying26 sz40 h44 h46 hp7 h08 hj9 hv10) ?_
    obtain ⟨b11, i12, hp13, c14, hg18, c15, hg19, c16, hg20, c17, hg21, H⟩ := H
    refine lk (dt := some 49) R15_9_N rfl rfl rfl (ov_ldN rfl underlying40 rfl sz40 rfl rfl hp13 (getN_cons hg18 (getN_cons hg19 (getN_cons hg20 (getN_cons hg21 getN_nil))))) ?_
    obtain ⟨p22, aw23, hp24, ha25, H⟩ := H
    refine lk (dt := some 5) R15_9_N rfl rfl rfl (ov_alloc rfl z40 rfl rfl hp24 ha25) ?_
    obtain ⟨b27, i28, aw26, hp29, hw30, ho31, ha32, H⟩ := H
    refine lk (dt := none) R15_9_N rfl rfl rfl (ov_st rfl rfl rfl rfl rfl rfl sz40 hp29 hw30 ho31 ha32) ?_
    refine aops_nil ?_
    obtain ⟨b34, i35, p33, hp36, hv37, H⟩ := H
    obtain ⟨b38, i39, x41, hp40, hg42, H⟩ := H
    obtain ⟨b44, i45, p43, hp46, hv47, H⟩ := H
    obtain ⟨b48, i49, x51, hp50, hg52, H⟩ := H
    obtain ⟨b54, i55, p53, hp56, hv57, H⟩ := H
    obtain ⟨b58, i59, x61, hp60, hg62, H⟩ := H
    obtain ⟨b64, i65, p63, hp66, hv67, H⟩ := H
    obtain ⟨b68, i69, x71, hp70, hg72, H⟩ := H
    refine ago_drawH (p := [0, 1, 2, 4, 5, 7, 8, 10, 11]) (tl := [(3, [4, 5, 7, 8, 10, 11], []), (6, [7, 8, 10, 11], []), (9, [10, 11], []), (12, [], [])]) (hv := [(0, w_3), (1, p33), (2, Value.int .u64 x41), (4, p43), (5, Value.int .u64 x51), (7, p53), (8, Value.int .u64 x61), (10, p63), (11, x71)]) E15_29 mixed R15_10_N R15_10_O rfl (pv_cons rfl (pv_cons rfl (pv_cons rfl (pv_cons rfl (pv_cons rfl (pv_cons rfl (pv_cons rfl (pv_cons rfl (pv_cons rfl (pv_nil _))))))))))
      (ffc (d := 50) (v := w_3) (hd_v rfl fun ρ hρ => ⟨rfl, opv_move rfl rfl ((hρ 3 (lmem rfl)).trans h3)⟩) rfl rfl
      (ffc (d := 51) (v := p33) (hd_v rfl fun ρ hρ => ⟨rfl, ov_fldA rfl rfl underlying40 rfl sz24 (by decide) ((hρ 5 (lmem rfl)).trans rfl) hp36 rfl hv37⟩) rfl rfl
      (ffc (d := 52) (v := .int .u64 x41) (hd_v rfl fun ρ hρ => ⟨rfl, ov_ldI rfl underlying24 rfl ((hρ 51 (lmem rfl)).trans rfl) hp40 hg42⟩) rfl rfl
      (ffc (d := 54) (v := p43) (hd_v rfl fun ρ hρ => ⟨rfl, ov_fldA rfl rfl underlying40 rfl sz24 (by decide) ((hρ 5 (lmem rfl)).trans rfl) hp46 rfl hv47⟩) rfl rfl
      (ffc (d := 55) (v := .int .u64 x51) (hd_v rfl fun ρ hρ => ⟨rfl, ov_ldI rfl underlying24 rfl ((hρ 54 (lmem rfl)).trans rfl) hp50 hg52⟩) rfl rfl
      (ffc (d := 57) (v := p53) (hd_v rfl fun ρ hρ => ⟨rfl, ov_fldA rfl rfl underlying40 rfl sz24 (by decide) ((hρ 5 (lmem rfl)).trans rfl) hp56 rfl hv57⟩) rfl rfl
      (ffc (d := 58) (v := .int .u64 x61) (hd_v rfl fun ρ hρ => ⟨rfl, ov_ldI rfl underlying24 rfl ((hρ 57 (lmem rfl)).trans rfl) hp60 hg62⟩) rfl rfl
      (ffc (d := 60) (v := p63) (hd_v rfl fun ρ hρ => ⟨rfl, ov_fldA rfl rfl underlying40 rfl sz25 (by decide) ((hρ 5 (lmem rfl)).trans rfl) hp66 rfl hv67⟩) rfl rfl
      (ffc (d := 61) (v := x71) (hd_v rfl fun ρ hρ => ⟨rfl, ov_ldV rfl underlying25 rfl rfl ((hρ 60 (lmem rfl)).trans rfl) hp70 hg72⟩) rfl rfl
      ffn))))))))) ?_
    refine lt_call (dt := some 53) rfl rfl (fun ρ hρ => ⟨rfl, opc_of rfl rfl is46 (ma_cons ((hρ 50 (lmem rfl)).trans rfl) (ma_cons ((hρ 52 (lmem rfl)).trans rfl) rfl))⟩) H (fun _ _ h _ => ⟨rfl, h⟩) fun r73 aw74 H => ?_
    obtain ⟨hg52, H⟩ := H
    replace hg52 := hg52 _ _ hp50
    obtain ⟨hg62, H⟩ := H
    replace hg62 := hg62 _ _ hp60
    obtain ⟨hg72, H⟩ := H
    replace hg72 := hg72 _ _ hp70
    refine lt_next (l := [4, 5, 7, 8, 10, 11]) (hv := []) rfl rfl (pv_nil _)
      (ffc (d := 54) (v := p43) (hd_v rfl fun ρ hρ => ⟨rfl, ov_fldA rfl rfl underlying40 rfl sz24 (by decide) ((hρ 5 (lmem rfl)).trans rfl) hp46 rfl hv47⟩) rfl rfl
      (ffc (d := 55) (v := .int .u64 x51) (hd_v rfl fun ρ hρ => ⟨rfl, ov_ldI rfl underlying24 rfl ((hρ 54 (lmem rfl)).trans rfl) hp50 hg52⟩) rfl rfl
      (ffc (d := 57) (v := p53) (hd_v rfl fun ρ hρ => ⟨rfl, ov_fldA rfl rfl underlying40 rfl sz24 (by decide) ((hρ 5 (lmem rfl)).trans rfl) hp56 rfl hv57⟩) rfl rfl
      (ffc (d := 58) (v := .int .u64 x61) (hd_v rfl fun ρ hρ => ⟨rfl, ov_ldI rfl underlying24 rfl ((hρ 57 (lmem rfl)).trans rfl) hp60 hg62⟩) rfl rfl
      (ffc (d := 60) (v := p63) (hd_v rfl fun ρ hρ => ⟨rfl, ov_fldA rfl rfl underlying40 rfl sz25 (by decide) ((hρ 5 (lmem rfl)).trans rfl) hp66 rfl hv67⟩) rfl rfl
      (ffc (d := 61) (v := x71) (hd_v rfl fun ρ hρ => ⟨rfl, ov_ldV rfl underlying25 rfl rfl ((hρ 60 (lmem rfl)).trans rfl) hp70 hg72⟩) rfl rfl
      ffn)))))) ?_
    refine lt_call (dt := some 56) rfl rfl (fun ρ hρ => ⟨rfl, opc_of rfl rfl is46 (ma_cons ((hρ 53 (lmem rfl)).trans rfl) (ma_cons ((hρ 55 (lmem rfl)).trans rfl) rfl))⟩) H (fun _ _ h _ => ⟨rfl, h⟩) fun r75 aw76 H => ?_
    obtain ⟨hg62, H⟩ := H
    replace hg62 := hg62 _ _ hp60
    obtain ⟨hg72, H⟩ := H
    replace hg72 := hg72 _ _ hp70
    refine lt_next (l := [7, 8, 10, 11]) (hv := []) rfl rfl (pv_nil _)
      (ffc (d := 57) (v := p53) (hd_v rfl fun ρ hρ => ⟨rfl, ov_fldA rfl rfl underlying40 rfl sz24 (by decide) ((hρ 5 (lmem rfl)).trans rfl) hp56 rfl hv57⟩) rfl rfl
      (ffc (d := 58) (v := .int .u64 x61) (hd_v rfl fun ρ hρ => ⟨rfl, ov_ldI rfl underlying24 rfl ((hρ 57 (lmem rfl)).trans rfl) hp60 hg62⟩) rfl rfl
      (ffc (d := 60) (v := p63) (hd_v rfl fun ρ hρ => ⟨rfl, ov_fldA rfl rfl underlying40 rfl sz25 (by decide) ((hρ 5 (lmem rfl)).trans rfl) hp66 rfl hv67⟩) rfl rfl
      (ffc (d := 61) (v := x71) (hd_v rfl fun ρ hρ => ⟨rfl, ov_ldV rfl underlying25 rfl rfl ((hρ 60 (lmem rfl)).trans rfl) hp70 hg72⟩) rfl rfl
      ffn)))) ?_
    refine lt_call (dt := some 59) rfl rfl (fun ρ hρ => ⟨rfl, opc_of rfl rfl is46 (ma_cons ((hρ 56 (lmem rfl)).trans rfl) (ma_cons ((hρ 58 (lmem rfl)).trans rfl) rfl))⟩) H (fun _ _ h _ => ⟨rfl, h⟩) fun r77 aw78 H => ?_
    obtain ⟨hg72, H⟩ := H
    replace hg72 := hg72 _ _ hp70
    refine lt_next (l := [10, 11]) (hv := []) rfl rfl (pv_nil _)
      (ffc (d := 60) (v := p63) (hd_v rfl fun ρ hρ => ⟨rfl, ov_fldA rfl rfl underlying40 rfl sz25 (by decide) ((hρ 5 (lmem rfl)).trans rfl) hp66 rfl hv67⟩) rfl rfl
      (ffc (d := 61) (v := x71) (hd_v rfl fun ρ hρ => ⟨rfl, ov_ldV rfl underlying25 rfl rfl ((hρ 60 (lmem rfl)).trans rfl) hp70 hg72⟩) rfl rfl
      ffn)) ?_
    refine lt_call (dt := some 62) rfl rfl (fun ρ hρ => ⟨rfl, opc_of rfl rfl is48 (ma_cons ((hρ 59 (lmem rfl)).trans rfl) (ma_cons ((hρ 61 (lmem rfl)).trans rfl) rfl))⟩) H (fun _ _ h _ => ⟨rfl, h⟩) fun r79 aw80 H => ?_
    refine lt_next (l := []) (hv := []) rfl rfl (pv_nil _)
      ffn ?_
    refine lt_end ?_
    refine ago_inBlock ?_
    refine ago_cut (fun ρ => ρ 1 = m_1 ∧ ρ 3 = w_3 ∧ ρ 44 = t_44 ∧ ρ 45 = .int .i64 t_45 ∧ ρ 46 = .int .i64 t_46 ∧ True) ⟨h1, h3, h44, h45, h46, trivial⟩ (fun ρ ⟨h1, h3, h44, h45, h46, _⟩ => ?_)
    refine ago_regE E15_30 (l := [0, 1]) rfl ?_
    refine lk (dt := some 63) R15_11_N rfl rfl rfl (opv_add rfl rfl rfl h46 rfl) ?_
    refine lk (dt := some 46) R15_11_N rfl rfl rfl (opv_move rfl rfl rfl) ?_
    refine aops_nil ?_
    refine ago_inLoop ?_
    exact L2 _ m_1 w_3 t_44 t_45 (IntKind.i64.wrap (t_46 + 1)) aw80 h1 h3 h44 h45 rfl H
  · replace H := cnd_f H hb1
    refine ago_exitE E15_24 rfl ?_
    refine ago_seqE E15_31 ?_
    refine ago_regE E15_32 (l := [0, 1, 2, 3, 4, 5, 6]) rfl ?_
    refine lk (dt := some 64) R15_12_N rfl rfl rfl (opv_move rfl rfl h3) ?_
    obtain ⟨b82, i83, p81, hp84, hv85, H⟩ := H
    refine lk (dt := some 65) R15_12_N rfl rfl rfl (ov_fldA rfl rfl underlying43 rfl sz25 (by decide) h1 hp84 rfl hv85) ?_
    obtain ⟨b86, i87, x89, hp88, hg90, H⟩ := H
    refine lk (dt := some 66) R15_12_N rfl rfl rfl (ov_ldV rfl underlying25 rfl rfl rfl hp88 hg90) ?_
    refine lk_call (dt := some 67) R15_12_N rfl rfl rfl (opc_of rfl rfl is48 (ma_cons rfl (ma_cons rfl rfl))) H (fun _ _ h => ⟨rfl, h⟩) fun r91 aw92 H => ?_
    refine lk_call (dt := some 68) R15_12_N rfl rfl rfl (opc_of rfl rfl is50 (ma_cons rfl rfl)) H (fun _ _ h => ⟨rfl, h⟩) fun r93 aw94 H => ?_
    refine lk_call (dt := some 69) R15_12_N rfl rfl rfl (opc_of rfl rfl is49 (ma_cons rfl rfl)) H (fun _ _ h => ⟨rfl, h⟩) fun r95 aw96 H => ?_
    refine lk (dt := some 2) R15_12_N rfl rfl rfl (opv_assign rfl rfl rfl) ?_
    refine aops_nil ?_
    exact ago_retE E15_33 (r := r95) (ares_1 rfl (oneT rfl)) rfl H
theorem S15_2_ok (Q : Value → AW → Prop) (E : List PanicEntry → AW → Prop)  : ∀ (n : Nat) (ρ : Env) (m_1 : Value) (w_3 : Value) (t_44 : Value) (t_45 : Int) (t_46 : Int) (aw : AW) (h1 : ρ 1 = m_1) (h3 : ρ 3 = w_3) (h44 : ρ 44 = t_44) (h45 : ρ 45 = .int .i64 t_45) (h46 : ρ 46 = .int .i64 t_46), S15_2 Q E  n m_1 w_3 t_44 t_45 t_46 aw →
    AGo prog 70 [.code C15_19, .inLoop C15_19, .inBlock 0, .code C15_31] ρ [] aw (RR prog f15 70 sh15 Q E)
  | 0, _, _, _, _, _, _, _, _, _, _, _, _ => fun H => H.elim
  | n + 1, ρ, m_1, w_3, t_44, t_45, t_46, aw, h1, h3, h44, h45, h46 => fun H => S15_2s_ok Q E  _ (S15_2_ok Q E  n) ρ m_1 w_3 t_44 t_45 t_46 aw h1 h3 h44 h45 h46 H
theorem S15_1_ok (Q : Value → AW → Prop) (E : List PanicEntry → AW → Prop)  (ρ : Env) (m_1 : Value) (w_3 : Value) (aw : AW) (h1 : ρ 1 = m_1) (h3 : ρ 3 = w_3) (H : S15_1 Q E  m_1 w_3 aw) :
    AGo prog 70 [.code C15_12] ρ [] aw (RR prog f15 70 sh15 Q E) := by
  unfold S15_1 at H
  refine ago_seqE E15_12 ?_
  refine ago_regE E15_13 (l := [0, 1, 2, 3, 4, 5]) rfl ?_
  refine lk (dt := some 37) R15_6_N rfl rfl rfl (opv_move rfl rfl h3) ?_
  obtain ⟨b98, i99, p97, hp100, hv101, H⟩ := H
  refine lk (dt := some 38) R15_6_N rfl rfl rfl (ov_fldA rfl rfl underlying43 rfl sz26 (by decide) h1 hp100 rfl hv101) ?_
  obtain ⟨b102, i103, x105, hp104, hg106, H⟩ := H
  refine lk (dt := some 39) R15_6_N rfl rfl rfl (ov_ldV rfl underlying26 rfl rfl rfl hp104 hg106) ?_
  obtain ⟨q108, l109, c110, n107, hv111, hn112, H⟩ := H
  refine lk (dt := some 40) R15_6_N rfl rfl rfl (ov_len rfl rfl rfl underlying26 rfl hv111 hn112) ?_
  refine lk (dt := some 41) R15_6_N rfl rfl rfl (opv_conv rfl rfl underlying3 underlying24 rfl) ?_
  refine lk_call (dt := some 42) R15_6_N rfl rfl rfl (opc_of rfl rfl is46 (ma_cons rfl (ma_cons rfl rfl))) H (fun _ _ h => ⟨rfl, h⟩) fun r113 aw114 H => ?_
  refine aops_nil ?_
  refine ago_seqE E15_14 ?_
  refine ago_seqE E15_15 ?_
  refine ago_regE E15_16 (l := [0, 1, 2, 3]) rfl ?_
  obtain ⟨b116, i117, p115, hp118, hv119, H⟩ := H
  refine lk (dt := some 43) R15_7_N rfl rfl rfl (ov_fldA rfl rfl underlying43 rfl sz26 (by decide) h1 hp118 rfl hv119) ?_
  obtain ⟨b120, i121, x123, hp122, hg124, H⟩ := H
  refine lk (dt := some 44) R15_7_N rfl rfl rfl (ov_ldV rfl underlying26 rfl rfl rfl hp122 hg124) ?_
  obtain ⟨q126, l127, c128, n125, hv129, hn130, H⟩ := H
  refine lk (dt := some 45) R15_7_N rfl rfl rfl (ov_len rfl rfl rfl underlying26 rfl hv129 hn130) ?_
  refine lk (dt := some 46) R15_7_N rfl rfl rfl (opv_move rfl rfl rfl) ?_
  refine aops_nil ?_
  refine ago_blockE E15_17 ?_
  refine ago_loopE E15_18 ?_
  obtain ⟨n, H⟩ := H
  exact S15_2_ok Q E  n _ m_1 w_3 x123 n125 0 aw114 h1 h3 rfl rfl rfl H
theorem S15_0_ok (Q : Value → AW → Prop) (E : List PanicEntry → AW → Prop)  (ρ : Env) (m_0_0 : Int) (m_0_1 : Int) (m_0_2 : Int) (m_0_3 : Int) (m_0_4 : Int) (m_0_5 : Int) (m_0_6 : Int) (m_0_7 : Bool) (m_0_8 : Value) (m_0_9 : Value) (aw : AW) (h0 : ρ 0 = .agg #[.int .u8 m_0_0, .int .i64 m_0_1, .int .i64 m_0_2, .int .u64 m_0_3, .int .u64 m_0_4, .int .u64 m_0_5, .int .u64 m_0_6, .bool m_0_7, m_0_8, m_0_9]) (H : S15_0 Q E  m_0_0 m_0_1 m_0_2 m_0_3 m_0_4 m_0_5 m_0_6 m_0_7 m_0_8 m_0_9 aw) :
    AGo prog 70 [.code C15_0] ρ [] aw (RR prog f15 70 sh15 Q E) := by
  unfold S15_0 at H
  refine ago_seqE E15_0 ?_
  refine ago_regE E15_1 (l := [0, 1]) rfl ?_
  obtain ⟨p131, aw132, hp133, ha134, H⟩ := H
  refine lk (dt := some 1) R15_0_N rfl rfl rfl (ov_box rfl rfl h0 rfl hp133 ha134) ?_
  refine lk (dt := some 2) R15_0_N rfl rfl rfl (opv_assign rfl rfl rfl) ?_
  refine aops_nil ?_
  refine ago_seqE E15_2 ?_
  refine ago_regE E15_3 (l := [0, 1, 2]) rfl ?_
  refine lk (dt := some 6) R15_1_N rfl rfl rfl (ov_bld (r := [(.slice none 0 0)]) rfl rfl bo98 rfl (fillN rfl)) ?_
  obtain ⟨p135, aw136, hp137, ha138, H⟩ := H
  refine lk (dt := some 7) R15_1_N rfl rfl rfl (ov_box rfl rfl rfl rfl hp137 ha138) ?_
  refine lk (dt := some 3) R15_1_N rfl rfl rfl (opv_assign rfl rfl rfl) ?_
  refine aops_nil ?_
  refine ago_seqE E15_4 ?_
  obtain ⟨b140, i141, p139, hp142, hv143, H⟩ := H
  obtain ⟨b144, i145, x147, hp146, hg148, H⟩ := H
  obtain ⟨b150, i151, p149, hp152, hv153, H⟩ := H
  obtain ⟨b154, i155, x157, hp156, hg158, H⟩ := H
  obtain ⟨b160, i161, p159, hp162, hv163, H⟩ := H
  obtain ⟨b164, i165, x167, hp166, hg168, H⟩ := H
  obtain ⟨b170, i171, p169, hp172, hv173, H⟩ := H
  obtain ⟨b174, i175, x177, hp176, hg178, H⟩ := H
  obtain ⟨b180, i181, p179, hp182, hv183, H⟩ := H
  obtain ⟨b184, i185, x187, hp186, hg188, H⟩ := H
  obtain ⟨b190, i191, p189, hp192, hv193, H⟩ := H
  obtain ⟨b194, i195, x197, hp196, hg198, H⟩ := H
  obtain ⟨b200, i201, p199, hp202, hv203, H⟩ := H
  obtain ⟨b204, i205, x207, hp206, hg208, H⟩ := H
  refine ago_drawH (p := [0, 1, 2, 3, 5, 6, 8, 9, 11, 12, 14, 15, 17, 18, 20, 21]) (tl := [(4, [5, 6, 8, 9, 11, 12, 14, 15, 17, 18, 20, 21], []), (7, [8, 9, 11, 12, 14, 15, 17, 18, 20, 21], []), (10, [11, 12, 14, 15, 17, 18, 20, 21], []), (13, [14, 15, 17, 18, 20, 21], []), (16, [17, 18, 20, 21], []), (19, [20, 21], []), (22, [], [])]) (hv := [(0, p135), (1, p139), (2, Value.int .u8 x147), (3, Value.int .u64 (IntKind.u64.wrap x147)), (5, p149), (6, Value.int .i64 x157), (8, p159), (9, Value.int .i64 x167), (11, p169), (12, Value.int .u64 x177), (14, p179), (15, Value.int .u64 x187), (17, p189), (18, Value.int .u64 x197), (20, p199), (21, Value.int .u64 x207)]) E15_5 mixed R15_2_N R15_2_O rfl (pv_cons rfl (pv_cons rfl (pv_cons rfl (pv_cons rfl (pv_cons rfl (pv_cons rfl (pv_cons rfl (pv_cons rfl (pv_cons rfl (pv_cons rfl (pv_cons rfl (pv_cons rfl (pv_cons rfl (pv_cons rfl (pv_cons rfl (pv_cons rfl (pv_nil _)))))))))))))))))
    (ffc (d := 8) (v := p135) (hd_v rfl fun ρ hρ => ⟨rfl, opv_move rfl rfl ((hρ 3 (lmem rfl)).trans rfl)⟩) rfl rfl
    (ffc (d := 9) (v := p139) (hd_v rfl fun ρ hρ => ⟨rfl, ov_fldA rfl rfl underlying43 rfl sz5 (by decide) ((hρ 1 (lmem rfl)).trans rfl) hp142 rfl hv143⟩) rfl rfl
    (ffc (d := 10) (v := .int .u8 x147) (hd_v rfl fun ρ hρ => ⟨rfl, ov_ldI rfl underlying5 rfl ((hρ 9 (lmem rfl)).trans rfl) hp146 hg148⟩) rfl rfl
    (ffc (d := 11) (v := .int .u64 (IntKind.u64.wrap x147)) (hd_v rfl fun ρ hρ => ⟨rfl, opv_conv rfl rfl underlying5 underlying24 ((hρ 10 (lmem rfl)).trans rfl)⟩) rfl rfl
    (ffc (d := 13) (v := p149) (hd_v rfl fun ρ hρ => ⟨rfl, ov_fldA rfl rfl underlying43 rfl sz3 (by decide) ((hρ 1 (lmem rfl)).trans rfl) hp152 rfl hv153⟩) rfl rfl
    (ffc (d := 14) (v := .int .i64 x157) (hd_v rfl fun ρ hρ => ⟨rfl, ov_ldI rfl underlying3 rfl ((hρ 13 (lmem rfl)).trans rfl) hp156 hg158⟩) rfl rfl
    (ffc (d := 16) (v := p159) (hd_v rfl fun ρ hρ => ⟨rfl, ov_fldA rfl rfl underlying43 rfl sz3 (by decide) ((hρ 1 (lmem rfl)).trans rfl) hp162 rfl hv163⟩) rfl rfl
    (ffc (d := 17) (v := .int .i64 x167) (hd_v rfl fun ρ hρ => ⟨rfl, ov_ldI rfl underlying3 rfl ((hρ 16 (lmem rfl)).trans rfl) hp166 hg168⟩) rfl rfl
    (ffc (d := 19) (v := p169) (hd_v rfl fun ρ hρ => ⟨rfl, ov_fldA rfl rfl underlying43 rfl sz24 (by decide) ((hρ 1 (lmem rfl)).trans rfl) hp172 rfl hv173⟩) rfl rfl
    (ffc (d := 20) (v := .int .u64 x177) (hd_v rfl fun ρ hρ => ⟨rfl, ov_ldI rfl underlying24 rfl ((hρ 19 (lmem rfl)).trans rfl) hp176 hg178⟩) rfl rfl
    (ffc (d := 22) (v := p179) (hd_v rfl fun ρ hρ => ⟨rfl, ov_fldA rfl rfl underlying43 rfl sz24 (by decide) ((hρ 1 (lmem rfl)).trans rfl) hp182 rfl hv183⟩) rfl rfl
    (ffc (d := 23) (v := .int .u64 x187) (hd_v rfl fun ρ hρ => ⟨rfl, ov_ldI rfl underlying24 rfl ((hρ 22 (lmem rfl)).trans rfl) hp186 hg188⟩) rfl rfl
    (ffc (d := 25) (v := p189) (hd_v rfl fun ρ hρ => ⟨rfl, ov_fldA rfl rfl underlying43 rfl sz24 (by decide) ((hρ 1 (lmem rfl)).trans rfl) hp192 rfl hv193⟩) rfl rfl
    (ffc (d := 26) (v := .int .u64 x197) (hd_v rfl fun ρ hρ => ⟨rfl, ov_ldI rfl underlying24 rfl ((hρ 25 (lmem rfl)).trans rfl) hp196 hg198⟩) rfl rfl
    (ffc (d := 28) (v := p199) (hd_v rfl fun ρ hρ => ⟨rfl, ov_fldA rfl rfl underlying43 rfl sz24 (by decide) ((hρ 1 (lmem rfl)).trans rfl) hp202 rfl hv203⟩) rfl rfl
    (ffc (d := 29) (v := .int .u64 x207) (hd_v rfl fun ρ hρ => ⟨rfl, ov_ldI rfl underlying24 rfl ((hρ 28 (lmem rfl)).trans rfl) hp206 hg208⟩) rfl rfl
    ffn)))))))))))))))) ?_
  refine lt_call (dt := some 12) rfl rfl (fun ρ hρ => ⟨rfl, opc_of rfl rfl is46 (ma_cons ((hρ 8 (lmem rfl)).trans rfl) (ma_cons ((hρ 11 (lmem rfl)).trans rfl) rfl))⟩) H (fun _ _ h _ => ⟨rfl, h⟩) fun r209 aw210 H => ?_
  obtain ⟨hg158, H⟩ := H
  replace hg158 := hg158 _ _ hp156
  obtain ⟨hg168, H⟩ := H
  replace hg168 := hg168 _ _ hp166
  obtain ⟨hg178, H⟩ := H
  replace hg178 := hg178 _ _ hp176
  obtain ⟨hg188, H⟩ := H
  replace hg188 := hg188 _ _ hp186
  obtain ⟨hg198, H⟩ := H
  replace hg198 := hg198 _ _ hp196
  obtain ⟨hg208, H⟩ := H
  replace hg208 := hg208 _ _ hp206
  refine lt_next (l := [5, 6, 8, 9, 11, 12, 14, 15, 17, 18, 20, 21]) (hv := []) rfl rfl (pv_nil _)
    (ffc (d := 13) (v := p149) (hd_v rfl fun ρ hρ => ⟨rfl, ov_fldA rfl rfl underlying43 rfl sz3 (by decide) ((hρ 1 (lmem rfl)).trans rfl) hp152 rfl hv153⟩) rfl rfl
    (ffc (d := 14) (v := .int .i64 x157) (hd_v rfl fun ρ hρ => ⟨rfl, ov_ldI rfl underlying3 rfl ((hρ 13 (lmem rfl)).trans rfl) hp156 hg158⟩) rfl rfl
    (ffc (d := 16) (v := p159) (hd_v rfl fun ρ hρ => ⟨rfl, ov_fldA rfl rfl underlying43 rfl sz3 (by decide) ((hρ 1 (lmem rfl)).trans rfl) hp162 rfl hv163⟩) rfl rfl
    (ffc (d := 17) (v := .int .i64 x167) (hd_v rfl fun ρ hρ => ⟨rfl, ov_ldI rfl underlying3 rfl ((hρ 16 (lmem rfl)).trans rfl) hp166 hg168⟩) rfl rfl
    (ffc (d := 19) (v := p169) (hd_v rfl fun ρ hρ => ⟨rfl, ov_fldA rfl rfl underlying43 rfl sz24 (by decide) ((hρ 1 (lmem rfl)).trans rfl) hp172 rfl hv173⟩) rfl rfl
    (ffc (d := 20) (v := .int .u64 x177) (hd_v rfl fun ρ hρ => ⟨rfl, ov_ldI rfl underlying24 rfl ((hρ 19 (lmem rfl)).trans rfl) hp176 hg178⟩) rfl rfl
    (ffc (d := 22) (v := p179) (hd_v rfl fun ρ hρ => ⟨rfl, ov_fldA rfl rfl underlying43 rfl sz24 (by decide) ((hρ 1 (lmem rfl)).trans rfl) hp182 rfl hv183⟩) rfl rfl
    (ffc (d := 23) (v := .int .u64 x187) (hd_v rfl fun ρ hρ => ⟨rfl, ov_ldI rfl underlying24 rfl ((hρ 22 (lmem rfl)).trans rfl) hp186 hg188⟩) rfl rfl
    (ffc (d := 25) (v := p189) (hd_v rfl fun ρ hρ => ⟨rfl, ov_fldA rfl rfl underlying43 rfl sz24 (by decide) ((hρ 1 (lmem rfl)).trans rfl) hp192 rfl hv193⟩) rfl rfl
    (ffc (d := 26) (v := .int .u64 x197) (hd_v rfl fun ρ hρ => ⟨rfl, ov_ldI rfl underlying24 rfl ((hρ 25 (lmem rfl)).trans rfl) hp196 hg198⟩) rfl rfl
    (ffc (d := 28) (v := p199) (hd_v rfl fun ρ hρ => ⟨rfl, ov_fldA rfl rfl underlying43 rfl sz24 (by decide) ((hρ 1 (lmem rfl)).trans rfl) hp202 rfl hv203⟩) rfl rfl
    (ffc (d := 29) (v := .int .u64 x207) (hd_v rfl fun ρ hρ => ⟨rfl, ov_ldI rfl underlying24 rfl ((hρ 28 (lmem rfl)).trans rfl) hp206 hg208⟩) rfl rfl
    ffn)))))))))))) ?_
  refine lt_call (dt := some 15) rfl rfl (fun ρ hρ => ⟨rfl, opc_of rfl rfl is47 (ma_cons ((hρ 12 (lmem rfl)).trans rfl) (ma_cons ((hρ 14 (lmem rfl)).trans rfl) rfl))⟩) H (fun _ _ h _ => ⟨rfl, h⟩) fun r211 aw212 H => ?_
  obtain ⟨hg168, H⟩ := H
  replace hg168 := hg168 _ _ hp166
  obtain ⟨hg178, H⟩ := H
  replace hg178 := hg178 _ _ hp176
  obtain ⟨hg188, H⟩ := H
  replace hg188 := hg188 _ _ hp186
  obtain ⟨hg198, H⟩ := H
  replace hg198 := hg198 _ _ hp196
  obtain ⟨hg208, H⟩ := H
  replace hg208 := hg208 _ _ hp206
  refine lt_next (l := [8, 9, 11, 12, 14, 15, 17, 18, 20, 21]) (hv := []) rfl rfl (pv_nil _)
    (ffc (d := 16) (v := p159) (hd_v rfl fun ρ hρ => ⟨rfl, ov_fldA rfl rfl underlying43 rfl sz3 (by decide) ((hρ 1 (lmem rfl)).trans rfl) hp162 rfl hv163⟩) rfl rfl
    (ffc (d := 17) (v := .int .i64 x167) (hd_v rfl fun ρ hρ => ⟨rfl, ov_ldI rfl underlying3 rfl ((hρ 16 (lmem rfl)).trans rfl) hp166 hg168⟩) rfl rfl
    (ffc (d := 19) (v := p169) (hd_v rfl fun ρ hρ => ⟨rfl, ov_fldA rfl rfl underlying43 rfl sz24 (by decide) ((hρ 1 (lmem rfl)).trans rfl) hp172 rfl hv173⟩) rfl rfl
    (ffc (d := 20) (v := .int .u64 x177) (hd_v rfl fun ρ hρ => ⟨rfl, ov_ldI rfl underlying24 rfl ((hρ 19 (lmem rfl)).trans rfl) hp176 hg178⟩) rfl rfl
    (ffc (d := 22) (v := p179) (hd_v rfl fun ρ hρ => ⟨rfl, ov_fldA rfl rfl underlying43 rfl sz24 (by decide) ((hρ 1 (lmem rfl)).trans rfl) hp182 rfl hv183⟩) rfl rfl
    (ffc (d := 23) (v := .int .u64 x187) (hd_v rfl fun ρ hρ => ⟨rfl, ov_ldI rfl underlying24 rfl ((hρ 22 (lmem rfl)).trans rfl) hp186 hg188⟩) rfl rfl
    (ffc (d := 25) (v := p189) (hd_v rfl fun ρ hρ => ⟨rfl, ov_fldA rfl rfl underlying43 rfl sz24 (by decide) ((hρ 1 (lmem rfl)).trans rfl) hp192 rfl hv193⟩) rfl rfl
    (ffc (d := 26) (v := .int .u64 x197) (hd_v rfl fun ρ hρ => ⟨rfl, ov_ldI rfl underlying24 rfl ((hρ 25 (lmem rfl)).trans rfl) hp196 hg198⟩) rfl rfl
    (ffc (d := 28) (v := p199) (hd_v rfl fun ρ hρ => ⟨rfl, ov_fldA rfl rfl underlying43 rfl sz24 (by decide) ((hρ 1 (lmem rfl)).trans rfl) hp202 rfl hv203⟩) rfl rfl
    (ffc (d := 29) (v := .int .u64 x207) (hd_v rfl fun ρ hρ => ⟨rfl, ov_ldI rfl underlying24 rfl ((hρ 28 (lmem rfl)).trans rfl) hp206 hg208⟩) rfl rfl
    ffn)))))))))) ?_
  refine lt_call (dt := some 18) rfl rfl (fun ρ hρ => ⟨rfl, opc_of rfl rfl is47 (ma_cons ((hρ 15 (lmem rfl)).trans rfl) (ma_cons ((hρ 17 (lmem rfl)).trans rfl) rfl))⟩) H (fun _ _ h _ => ⟨rfl, h⟩) fun r213 aw214 H => ?_
  obtain ⟨hg178, H⟩ := H
  replace hg178 := hg178 _ _ hp176
  obtain ⟨hg188, H⟩ := H
  replace hg188 := hg188 _ _ hp186
  obtain ⟨hg198, H⟩ := H
  replace hg198 := hg198 _ _ hp196
  obtain ⟨hg208, H⟩ := H
  replace hg208 := hg208 _ _ hp206
  refine lt_next (l := [11, 12, 14, 15, 17, 18, 20, 21]) (hv := []) rfl rfl (pv_nil _)
    (ffc (d := 19) (v := p169) (hd_v rfl fun ρ hρ => ⟨rfl, ov_fldA rfl rfl underlying43 rfl sz24 (by decide) ((hρ 1 (lmem rfl)).trans rfl) hp172 rfl hv173⟩) rfl rfl
    (ffc (d := 20) (v := .int .u64 x177) (hd_v rfl fun ρ hρ => ⟨rfl, ov_ldI rfl underlying24 rfl ((hρ 19 (lmem rfl)).trans rfl) hp176 hg178⟩) rfl rfl
    (ffc (d := 22) (v := p179) (hd_v rfl fun ρ hρ => ⟨rfl, ov_fldA rfl rfl underlying43 rfl sz24 (by decide) ((hρ 1 (lmem rfl)).trans rfl) hp182 rfl hv183⟩) rfl rfl
    (ffc (d := 23) (v := .int .u64 x187) (hd_v rfl fun ρ hρ => ⟨rfl, ov_ldI rfl underlying24 rfl ((hρ 22 (lmem rfl)).trans rfl) hp186 hg188⟩) rfl rfl
    (ffc (d := 25) (v := p189) (hd_v rfl fun ρ hρ => ⟨rfl, ov_fldA rfl rfl underlying43 rfl sz24 (by decide) ((hρ 1 (lmem rfl)).trans rfl) hp192 rfl hv193⟩) rfl rfl
    (ffc (d := 26) (v := .int .u64 x197) (hd_v rfl fun ρ hρ => ⟨rfl, ov_ldI rfl underlying24 rfl ((hρ 25 (lmem rfl)).trans rfl) hp196 hg198⟩) rfl rfl
    (ffc (d := 28) (v := p199) (hd_v rfl fun ρ hρ => ⟨rfl, ov_fldA rfl rfl underlying43 rfl sz24 (by decide) ((hρ 1 (lmem rfl)).trans rfl) hp202 rfl hv203⟩) rfl rfl
    (ffc (d := 29) (v := .int .u64 x207) (hd_v rfl fun ρ hρ => ⟨rfl, ov_ldI rfl underlying24 rfl ((hρ 28 (lmem rfl)).trans rfl) hp206 hg208⟩) rfl rfl
    ffn)))))))) ?_
  refine lt_call (dt := some 21) rfl rfl (fun ρ hρ => ⟨rfl, opc_of rfl rfl is46 (ma_cons ((hρ 18 (lmem rfl)).trans rfl) (ma_cons ((hρ 20 (lmem rfl)).trans rfl) rfl))⟩) H (fun _ _ h _ => ⟨rfl, h⟩) fun r215 aw216 H => ?_
  obtain ⟨hg188, H⟩ := H
  replace hg188 := hg188 _ _ hp186
  obtain ⟨hg198, H⟩ := H
  replace hg198 := hg198 _ _ hp196
  obtain ⟨hg208, H⟩ := H
  replace hg208 := hg208 _ _ hp206
  refine lt_next (l := [14, 15, 17, 18, 20, 21]) (hv := []) rfl rfl (pv_nil _)
    (ffc (d := 22) (v := p179) (hd_v rfl fun ρ hρ => ⟨rfl, ov_fldA rfl rfl underlying43 rfl sz24 (by decide) ((hρ 1 (lmem rfl)).trans rfl) hp182 rfl hv183⟩) rfl rfl
    (ffc (d := 23) (v := .int .u64 x187) (hd_v rfl fun ρ hρ => ⟨rfl, ov_ldI rfl underlying24 rfl ((hρ 22 (lmem rfl)).trans rfl) hp186 hg188⟩) rfl rfl
    (ffc (d := 25) (v := p189) (hd_v rfl fun ρ hρ => ⟨rfl, ov_fldA rfl rfl underlying43 rfl sz24 (by decide) ((hρ 1 (lmem rfl)).trans rfl) hp192 rfl hv193⟩) rfl rfl
    (ffc (d := 26) (v := .int .u64 x197) (hd_v rfl fun ρ hρ => ⟨rfl, ov_ldI rfl underlying24 rfl ((hρ 25 (lmem rfl)).trans rfl) hp196 hg198⟩) rfl rfl
    (ffc (d := 28) (v := p199) (hd_v rfl fun ρ hρ => ⟨rfl, ov_fldA rfl rfl underlying43 rfl sz24 (by decide) ((hρ 1 (lmem rfl)).trans rfl) hp202 rfl hv203⟩) rfl rfl
    (ffc (d := 29) (v := .int .u64 x207) (hd_v rfl fun ρ hρ => ⟨rfl, ov_ldI rfl underlying24 rfl ((hρ 28 (lmem rfl)).trans rfl) hp206 hg208⟩) rfl rfl
    ffn)))))) ?_
  refine lt_call (dt := some 24) rfl rfl (fun ρ hρ => ⟨rfl, opc_of rfl rfl is46 (ma_cons ((hρ 21 (lmem rfl)).trans rfl) (ma_cons ((hρ 23 (lmem rfl)).trans rfl) rfl))⟩) H (fun _ _ h _ => ⟨rfl, h⟩) fun r217 aw218 H => ?_
  obtain ⟨hg198, H⟩ := H
  replace hg198 := hg198 _ _ hp196
  obtain ⟨hg208, H⟩ := H
  replace hg208 := hg208 _ _ hp206
  refine lt_next (l := [17, 18, 20, 21]) (hv := []) rfl rfl (pv_nil _)
    (ffc (d := 25) (v := p189) (hd_v rfl fun ρ hρ => ⟨rfl, ov_fldA rfl rfl underlying43 rfl sz24 (by decide) ((hρ 1 (lmem rfl)).trans rfl) hp192 rfl hv193⟩) rfl rfl
    (ffc (d := 26) (v := .int .u64 x197) (hd_v rfl fun ρ hρ => ⟨rfl, ov_ldI rfl underlying24 rfl ((hρ 25 (lmem rfl)).trans rfl) hp196 hg198⟩) rfl rfl
    (ffc (d := 28) (v := p199) (hd_v rfl fun ρ hρ => ⟨rfl, ov_fldA rfl rfl underlying43 rfl sz24 (by decide) ((hρ 1 (lmem rfl)).trans rfl) hp202 rfl hv203⟩) rfl rfl
    (ffc (d := 29) (v := .int .u64 x207) (hd_v rfl fun ρ hρ => ⟨rfl, ov_ldI rfl underlying24 rfl ((hρ 28 (lmem rfl)).trans rfl) hp206 hg208⟩) rfl rfl
    ffn)))) ?_
  refine lt_call (dt := some 27) rfl rfl (fun ρ hρ => ⟨rfl, opc_of rfl rfl is46 (ma_cons ((hρ 24 (lmem rfl)).trans rfl) (ma_cons ((hρ 26 (lmem rfl)).trans rfl) rfl))⟩) H (fun _ _ h _ => ⟨rfl, h⟩) fun r219 aw220 H => ?_
  obtain ⟨hg208, H⟩ := H
  replace hg208 := hg208 _ _ hp206
  refine lt_next (l := [20, 21]) (hv := []) rfl rfl (pv_nil _)
    (ffc (d := 28) (v := p199) (hd_v rfl fun ρ hρ => ⟨rfl, ov_fldA rfl rfl underlying43 rfl sz24 (by decide) ((hρ 1 (lmem rfl)).trans rfl) hp202 rfl hv203⟩) rfl rfl
    (ffc (d := 29) (v := .int .u64 x207) (hd_v rfl fun ρ hρ => ⟨rfl, ov_ldI rfl underlying24 rfl ((hρ 28 (lmem rfl)).trans rfl) hp206 hg208⟩) rfl rfl
    ffn)) ?_
  refine lt_call (dt := some 30) rfl rfl (fun ρ hρ => ⟨rfl, opc_of rfl rfl is46 (ma_cons ((hρ 27 (lmem rfl)).trans rfl) (ma_cons ((hρ 29 (lmem rfl)).trans rfl) rfl))⟩) H (fun _ _ h _ => ⟨rfl, h⟩) fun r221 aw222 H => ?_
  refine lt_next (l := []) (hv := []) rfl rfl (pv_nil _)
    ffn ?_
  refine lt_end ?_
  refine ago_seqE E15_6 ?_
  refine ago_seqE E15_7 ?_
  refine ago_cut (fun ρ => ρ 1 = p131 ∧ ρ 3 = p135 ∧ True) ⟨rfl, rfl, trivial⟩ (fun ρ ⟨h1, h3, _⟩ => ?_)
  refine ago_regE E15_8 (l := [0, 1]) rfl ?_
  obtain ⟨b224, i225, p223, hp226, hv227, H⟩ := H
  refine lk (dt := some 31) R15_3_N rfl rfl rfl (ov_fldA rfl rfl underlying43 rfl sz4 (by decide) h1 hp226 rfl hv227) ?_
  obtain ⟨b228, i229, x231, hp230, hg232, H⟩ := H
  refine lk (dt := some 32) R15_3_N rfl rfl rfl (ov_ldB rfl underlying4 rfl rfl hp230 hg232) ?_
  refine aops_nil ?_
  refine ago_condE  E15_9 rfl rfl (fun hb233 => ?_) (fun hb233 => ?_)
  · replace H := cnd_t H hb233
    refine ago_regE E15_10 (l := [0, 1]) rfl ?_
    refine lk (dt := some 33) R15_4_N rfl rfl rfl (opv_move rfl rfl h3) ?_
    refine lk_call (dt := some 34) R15_4_N rfl rfl rfl (opc_of rfl rfl is46 (ma_cons rfl (ma_cons rfl rfl))) H (fun _ _ h => ⟨rfl, h⟩) fun r234 aw235 H => ?_
    refine aops_nil ?_
    exact S15_1_ok Q E  _ p131 p135 aw235 h1 h3 H
  · replace H := cnd_f H hb233
    refine ago_regE E15_11 (l := [0, 1]) rfl ?_
    refine lk (dt := some 35) R15_5_N rfl rfl rfl (opv_move rfl rfl h3) ?_
    refine lk_call (dt := some 36) R15_5_N rfl rfl rfl (opc_of rfl rfl is46 (ma_cons rfl (ma_cons rfl rfl))) H (fun _ _ h => ⟨rfl, h⟩) fun r236 aw237 H => ?_
    refine aops_nil ?_
    exact S15_1_ok Q E  _ p131 p135 aw237 h1 h3 H
theorem F15_ok {Q : Value → AW → Prop} {E : List PanicEntry → AW → Prop} (m_0_0 : Int) (m_0_1 : Int) (m_0_2 : Int) (m_0_3 : Int) (m_0_4 : Int) (m_0_5 : Int) (m_0_6 : Int) (m_0_7 : Bool) (m_0_8 : Value) (m_0_9 : Value) (aw : AW) (H : S15_0 Q E m_0_0 m_0_1 m_0_2 m_0_3 m_0_4 m_0_5 m_0_6 m_0_7 m_0_8 m_0_9 aw) : CallP prog 15 [.agg #[.int .u8 m_0_0, .int .i64 m_0_1, .int .i64 m_0_2, .int .u64 m_0_3, .int .u64 m_0_4, .int .u64 m_0_5, .int .u64 m_0_6, .bool m_0_7, m_0_8, m_0_9]] aw sh15 Q E :=
  callP_of func15 C15_is rfl (Nat.le_of_ble_eq_true rfl) (S15_0_ok Q E _ m_0_0 m_0_1 m_0_2 m_0_3 m_0_4 m_0_5 m_0_6 m_0_7 m_0_8 m_0_9 aw rfl H)
def C16_0 : Code := bodyOf f16
theorem C16_is : f16.body = some C16_0 := by kernel_rfl
def C16_1 : Code := cl C16_0
def R16_0 : Array Oper := regOps C16_1
def C16_2 : Code := cr C16_0
def C16_3 : Code := cl C16_2
def R16_1 : Array Oper := regOps C16_3
def C16_4 : Code := cr C16_2
def C16_5 : Code := cl C16_4
def R16_2 : Array Oper := regOps C16_5
def C16_6 : Code := cr C16_4
def C16_7 : Code := cl C16_6
def R16_3 : Array Oper := regOps C16_7
def C16_8 : Code := cr C16_6
def C16_9 : Code := cl C16_8
def R16_4 : Array Oper := regOps C16_9
def C16_10 : Code := cr C16_8
def C16_11 : Code := cl C16_10
def R16_5 : Array Oper := regOps C16_11
def C16_12 : Code := cr C16_10
def C16_13 : Code := cl C16_12
def R16_6 : Array Oper := regOps C16_13
def C16_14 : Code := cr C16_12
def C16_15 : Code := cl C16_14
def R16_7 : Array Oper := regOps C16_15
def C16_16 : Code := cr C16_14
def C16_17 : Code := cl C16_16
def C16_18 : Code := cl C16_17
def R16_8 : Array Oper := regOps C16_18
def C16_19 : Code := cr C16_17
def C16_20 : Code := cl C16_19
def R16_9 : Array Oper := regOps C16_20
def C16_21 : Code := cr C16_19
def R16_10 : Array Oper := regOps C16_21
def C16_22 : Code := cr C16_16
def C16_23 : Code := cl C16_22
def R16_11 : Array Oper := regOps C16_23
def C16_24 : Code := cr C16_22
def C16_25 : Code := cl C16_24
def C16_26 : Code := cl C16_25
def R16_12 : Array Oper := regOps C16_26
def C16_27 : Code := cr C16_25
def C16_28 : Code := cl C16_27
def C16_29 : Code := cl C16_28
def C16_30 : Code := cl C16_29
def C16_31 : Code := cl C16_30
def R16_13 : Array Oper := regOps C16_31
def C16_32 : Code := cr C16_30
def C16_33 : Code := cl C16_32
def C16_34 : Code := cr C16_32
def C16_35 : Code := cr C16_29
def C16_36 : Code := cl C16_35
def C16_37 : Code := cl C16_36
def C16_38 : Code := cl C16_37
def R16_15 : Array Oper := regOps C16_38
def C16_39 : Code := cr C16_37
def C16_40 : Code := cl C16_39
def R16_16 : Array Oper := regOps C16_40
def C16_41 : Code := cr C16_39
def C16_42 : Code := cl C16_41
def R16_17 : Array Oper := regOps C16_42
def C16_43 : Code := cr C16_41
def C16_44 : Code := cl C16_43
def R16_18 : Array Oper := regOps C16_44
def C16_45 : Code := cr C16_43
def R16_19 : Array Oper := regOps C16_45
def C16_46 : Code := cr C16_35
def R16_14 : Array Oper := regOps C16_46
def C16_47 : Code := cr C16_24
def C16_48 : Code := cl C16_47
def R16_20 : Array Oper := regOps C16_48
def C16_49 : Code := cr C16_47
def C16_50 : Code := cl C16_49
def R16_21 : Array Oper := regOps C16_50
def C16_51 : Code := cr C16_49
theorem R16_0_N : dstsOk 94 R16_0 = true := by decide +kernel
theorem E16_1 : C16_1 = .region 0 R16_0 false := rfl
theorem R16_1_N : dstsOk 94 R16_1 = true := by decide +kernel
theorem E16_3 : C16_3 = .region 1 R16_1 false := rfl
theorem R16_2_N : dstsOk 94 R16_2 = true := by decide +kernel
theorem E16_5 : C16_5 = .region 2 R16_2 false := rfl
theorem R16_3_N : dstsOk 94 R16_3 = true := by decide +kernel
theorem E16_7 : C16_7 = .region 3 R16_3 false := rfl
theorem R16_4_N : dstsOk 94 R16_4 = true := by decide +kernel
theorem E16_9 : C16_9 = .region 4 R16_4 false := rfl
theorem R16_5_N : dstsOk 94 R16_5 = true := by decide +kernel
theorem E16_11 : C16_11 = .region 5 R16_5 false := rfl
theorem R16_6_N : dstsOk 94 R16_6 = true := by decide +kernel
theorem E16_13 : C16_13 = .region 6 R16_6 false := rfl
theorem R16_7_N : dstsOk 94 R16_7 = true := by decide +kernel
theorem E16_15 : C16_15 = .region 7 R16_7 false := rfl
theorem R16_8_N : dstsOk 94 R16_8 = true := by decide +kernel
theorem E16_18 : C16_18 = .region 8 R16_8 false := rfl
theorem R16_9_N : dstsOk 94 R16_9 = true := by decide +kernel
theorem E16_20 : C16_20 = .region 9 R16_9 false := rfl
theorem R16_10_N : dstsOk 94 R16_10 = true := by decide +kernel
theorem E16_21 : C16_21 = .region 10 R16_10 false := rfl
theorem E16_19 : C16_19 = .cond (.tmp 41) C16_20 C16_21 := rfl
theorem E16_17 : C16_17 = .seq C16_18 C16_19 := rfl
theorem R16_11_N : dstsOk 94 R16_11 = true := by decide +kernel
theorem E16_23 : C16_23 = .region 11 R16_11 false := rfl
theorem R16_12_N : dstsOk 94 R16_12 = true := by decide +kernel
theorem E16_26 : C16_26 = .region 12 R16_12 false := rfl
theorem R16_13_N : dstsOk 94 R16_13 = true := by decide +kernel
theorem E16_31 : C16_31 = .region 13 R16_13 false := rfl
theorem E16_33 : C16_33 = .skip := rfl
theorem E16_34 : C16_34 = .exit 0 := rfl
theorem E16_32 : C16_32 = .cond (.tmp 59) C16_33 C16_34 := rfl
theorem E16_30 : C16_30 = .seq C16_31 C16_32 := rfl
theorem R16_15_N : dstsOk 94 R16_15 = true := by decide +kernel
theorem E16_38 : C16_38 = .region 15 R16_15 false := rfl
theorem R16_16_N : dstsOk 94 R16_16 = true := by decide +kernel
theorem E16_40 : C16_40 = .region 16 R16_16 false := rfl
theorem R16_17_N : dstsOk 94 R16_17 = true := by decide +kernel
theorem E16_42 : C16_42 = .region 17 R16_17 false := rfl
theorem R16_18_N : dstsOk 94 R16_18 = true := by decide +kernel
theorem E16_44 : C16_44 = .region 18 R16_18 false := rfl
theorem R16_19_N : dstsOk 94 R16_19 = true := by decide +kernel
theorem E16_45 : C16_45 = .region 19 R16_19 false := rfl
theorem E16_43 : C16_43 = .seq C16_44 C16_45 := rfl
theorem E16_41 : C16_41 = .seq C16_42 C16_43 := rfl
theorem E16_39 : C16_39 = .seq C16_40 C16_41 := rfl
theorem E16_37 : C16_37 = .seq C16_38 C16_39 := rfl
theorem E16_36 : C16_36 = .block 1 C16_37 := rfl
theorem R16_14_N : dstsOk 94 R16_14 = true := by decide +kernel
theorem E16_46 : C16_46 = .region 14 R16_14 false := rfl
theorem E16_35 : C16_35 = .seq C16_36 C16_46 := rfl
theorem E16_29 : C16_29 = .seq C16_30 C16_35 := rfl
theorem E16_28 : C16_28 = .loop C16_29 := rfl
theorem E16_27 : C16_27 = .block 0 C16_28 := rfl
theorem E16_25 : C16_25 = .seq C16_26 C16_27 := rfl
theorem R16_20_N : dstsOk 94 R16_20 = true := by decide +kernel
theorem E16_48 : C16_48 = .region 20 R16_20 false := rfl
theorem R16_21_N : dstsOk 94 R16_21 = true := by decide +kernel
theorem E16_50 : C16_50 = .region 21 R16_21 false := rfl
theorem E16_51 : C16_51 = .ret := rfl
theorem E16_49 : C16_49 = .seq C16_50 C16_51 := rfl
theorem E16_47 : C16_47 = .seq C16_48 C16_49 := rfl
theorem E16_24 : C16_24 = .seq C16_25 C16_47 := rfl
theorem E16_22 : C16_22 = .seq C16_23 C16_24 := rfl
theorem E16_16 : C16_16 = .seq C16_17 C16_22 := rfl
theorem E16_14 : C16_14 = .seq C16_15 C16_16 := rfl
theorem E16_12 : C16_12 = .seq C16_13 C16_14 := rfl
theorem E16_10 : C16_10 = .seq C16_11 C16_12 := rfl
theorem E16_8 : C16_8 = .seq C16_9 C16_10 := rfl
theorem E16_6 : C16_6 = .seq C16_7 C16_8 := rfl
theorem E16_4 : C16_4 = .seq C16_5 C16_6 := rfl
theorem E16_2 : C16_2 = .seq C16_3 C16_4 := rfl
theorem E16_0 : C16_0 = .seq C16_1 C16_2 := rfl
def S16_2s (Q : Value → AW → Prop) (E : List PanicEntry → AW → Prop)  (nx2 : Value → Value → Int → AW → Prop) (m_1 : Value) (p_3 : Value) (i_4 : Int) (aw : AW) : Prop :=
  fldA m_1 8 fun p1 =>
  ldV aw p1 fun x9 =>
  slen x9 fun n11 =>
  cnd (decide (i_4 < n11)) (fldA m_1 8 fun p18 =>
  ldV aw p18 fun x26 =>
  ixS x26 i_4 4 fun p28 =>
  ptr p28 fun b37 i38 =>
  gI .u64 aw b37 i38 fun c40 =>
  gI .u64 aw b37 (i38 + 1) fun c41 =>
  gI .u64 aw b37 (i38 + 2) fun c42 =>
  gV aw b37 (i38 + 3) fun c43 =>
  alc aw [.int .u64 0, .int .u64 0, .int .u64 0, (.slice none 0 0)] 40 0 fun p48 aw49 =>
  st aw49 p48 [.int .u64 c40, .int .u64 c41, .int .u64 c42, c43] fun aw52 =>
  fldA p48 0 fun p59 =>
  ldI .u64 aw52 p59 fun x67 =>
  CallP prog 51 [.int .u64 x67] aw52 sh51 (fun r69 aw70 =>
  app aw70 5 1 1 p_3 r69 fun v71 aw72 =>
  fldA p48 1 fun p74 =>
  ldI .u64 aw72 p74 fun x82 =>
  CallP prog 51 [.int .u64 x82] aw72 sh51 (fun r84 aw85 =>
  app aw85 5 1 1 v71 r84 fun v86 aw87 =>
  fldA p48 2 fun p89 =>
  ldI .u64 aw87 p89 fun x97 =>
  CallP prog 51 [.int .u64 x97] aw87 sh51 (fun r99 aw100 =>
  app aw100 5 1 1 v86 r99 fun v101 aw102 =>
  fldA p48 3 fun p104 =>
  ldV aw102 p104 fun x112 =>
  CallP prog 53 [x112] aw102 sh53 (fun r114 aw115 =>
  app aw115 5 1 1 v101 r114 fun v116 aw117 =>
  nx2 m_1 v116 (IntKind.i64.wrap (i_4 + 1)) aw117) E) E) E) E) (fldA m_1 9 fun p119 =>
  ldV aw p119 fun x127 =>
  CallP prog 53 [x127] aw sh53 (fun r129 aw130 =>
  app aw130 5 1 1 p_3 r129 fun v131 aw132 =>
  CallP prog 54 [v131] aw132 sh54 (fun r134 aw135 =>
  Q r134 aw135) E) E)
def S16_2 (Q : Value → AW → Prop) (E : List PanicEntry → AW → Prop)  : Nat → Value → Value → Int → AW → Prop
  | 0 => fun _ _ _ _ => False
  | n + 1 => S16_2s Q E  (S16_2 Q E  n)
def S16_1 (Q : Value → AW → Prop) (E : List PanicEntry → AW → Prop)  (m_1 : Value) (p_3 : Value) (aw : AW) : Prop :=
  fldA m_1 8 fun p136 =>
  ldV aw p136 fun x144 =>
  slen x144 fun n146 =>
  CallP prog 51 [.int .u64 (IntKind.u64.wrap n146)] aw sh51 (fun r152 aw153 =>
  app aw153 5 1 1 p_3 r152 fun v154 aw155 =>
  ∃ n, S16_2 Q E  n m_1 v154 0 aw155) E
def S16_0 (Q : Value → AW → Prop) (E : List PanicEntry → AW → Prop)  (m_0_0 : Int) (m_0_1 : Int) (m_0_2 : Int) (m_0_3 : Int) (m_0_4 : Int) (m_0_5 : Int) (m_0_6 : Int) (m_0_7 : Bool) (m_0_8 : Value) (m_0_9 : Value) (aw : AW) : Prop :=
  alc aw [.int .u8 m_0_0, .int .i64 m_0_1, .int .i64 m_0_2, .int .u64 m_0_3, .int .u64 m_0_4, .int .u64 m_0_5, .int .u64 m_0_6, .bool m_0_7, m_0_8, m_0_9] 46 0 fun p157 aw158 =>
  fldA p157 0 fun p161 =>
  ldI .u8 aw158 p161 fun x169 =>
  CallP prog 51 [.int .u64 (IntKind.u64.wrap x169)] aw158 sh51 (fun r171 aw172 =>
  fldA p157 1 fun p173 =>
  ldI .i64 aw172 p173 fun x181 =>
  CallP prog 52 [.int .i64 x181] aw172 sh52 (fun r183 aw184 =>
  app aw184 5 1 1 r171 r183 fun v185 aw186 =>
  fldA p157 2 fun p188 =>
  ldI .i64 aw186 p188 fun x196 =>
  CallP prog 52 [.int .i64 x196] aw186 sh52 (fun r198 aw199 =>
  app aw199 5 1 1 v185 r198 fun v200 aw201 =>
  fldA p157 3 fun p203 =>
  ldI .u64 aw201 p203 fun x211 =>
  CallP prog 51 [.int .u64 x211] aw201 sh51 (fun r213 aw214 =>
  app aw214 5 1 1 v200 r213 fun v215 aw216 =>
  fldA p157 4 fun p218 =>
  ldI .u64 aw216 p218 fun x226 =>
  CallP prog 51 [.int .u64 x226] aw216 sh51 (fun r228 aw229 =>
  app aw229 5 1 1 v215 r228 fun v230 aw231 =>
  fldA p157 5 fun p233 =>
  ldI .u64 aw231 p233 fun x241 =>
  CallP prog 51 [.int .u64 x241] aw231 sh51 (fun r243 aw244 =>
  app aw244 5 1 1 v230 r243 fun v245 aw246 =>
  fldA p157 6 fun p248 =>
  ldI .u64 aw246 p248 fun x256 =>
  CallP prog 51 [.int .u64 x256] aw246 sh51 (fun r258 aw259 =>
  app aw259 5 1 1 v245 r258 fun v260 aw261 =>
  fldA p157 7 fun p263 =>
  ldB aw261 p263 fun x271 =>
  cnd x271 (CallP prog 51 [.int .u64 1] aw261 sh51 (fun r274 aw275 =>
  app aw275 5 1 1 v260 r274 fun v276 aw277 =>
  S16_1 Q E  p157 v276 aw277) E) (CallP prog 51 [.int .u64 0] aw261 sh51 (fun r279 aw280 =>
  app aw280 5 1 1 v260 r279 fun v281 aw282 =>
  S16_1 Q E  p157 v281 aw282) E)) E) E) E) E) E) E) E
theorem S16_2s_ok (Q : Value → AW → Prop) (E : List PanicEntry → AW → Prop)  (nx2 : Value → Value → Int → AW → Prop) (L2 : ∀ (ρ : Env) (m_1 : Value) (p_3 : Value) (i_4 : Int) (aw : AW) (h1 : ρ 1 = m_1) (h3 : ρ 3 = p_3) (h4 : ρ 4 = .int .i64 i_4), nx2 m_1 p_3 i_4 aw → AGo prog 94 [.code C16_29, .inLoop C16_29, .inBlock 0, .code C16_47] ρ [] aw (RR prog f16 94 sh16 Q E)) (ρ : Env) (m_1 : Value) (p_3 : Value) (i_4 : Int) (aw : AW) (h1 : ρ 1 = m_1) (h3 : ρ 3 = p_3) (h4 : ρ 4 = .int .i64 i_4) (H : S16_2s Q E  nx2 m_1 p_3 i_4 aw) :
    AGo prog 94 [.code C16_29, .inLoop C16_29, .inBlock 0, .code C16_47] ρ [] aw (RR prog f16 94 sh16 Q E) := by
  unfold S16_2s at H
  refine ago_seqE E16_29 ?_
  refine ago_seqE E16_30 ?_
  refine ago_regE E16_31 (l := [0, 1, 2, 3, 4]) rfl ?_
  refine lk (dt := some 55) R16_13_N rfl rfl rfl (opv_move rfl rfl h4) ?_
  obtain ⟨b2, i3, p1, hp4, hv5, H⟩ := H
  refine lk (dt := some 56) R16_13_N rfl rfl rfl (ov_fldA rfl rfl underlying46 rfl sz26 (by decide) h1 hp4 rfl hv5) ?_
  obtain ⟨b6, i7, x9, hp8, hg10, H⟩ := H
  refine lk (dt := some 57) R16_13_N rfl rfl rfl (ov_ldV rfl underlying26 rfl rfl rfl hp8 hg10) ?_
  obtain ⟨q12, l13, c14, n11, hv15, hn16, H⟩ := H
  refine lk (dt := some 58) R16_13_N rfl rfl rfl (ov_len rfl rfl rfl underlying26 rfl hv15 hn16) ?_
  refine lk (dt := some 59) R16_13_N rfl rfl rfl (opv_lt rfl rfl rfl rfl rfl) ?_
  refine aops_nil ?_
  refine ago_condE  E16_32 rfl rfl (fun hb17 => ?_) (fun hb17 => ?_)
  · replace H := cnd_t H hb17
    refine ago_skipE E16_33 ?_
    refine ago_seqE E16_35 ?_
    refine ago_blockE E16_36 ?_
    refine ago_seqE E16_37 ?_
    refine ago_regE E16_38 (l := [0, 1, 2, 3, 4, 5, 6]) rfl ?_
    obtain ⟨b19, i20, p18, hp21, hv22, H⟩ := H
    refine lk (dt := some 62) R16_15_N rfl rfl rfl (ov_fldA rfl rfl underlying46 rfl sz26 (by decide) h1 hp21 rfl hv22) ?_
    obtain ⟨b23, i24, x26, hp25, hg27, H⟩ := H
    refine lk (dt := some 63) R16_15_N rfl rfl rfl (ov_ldV rfl underlying26 rfl rfl rfl hp25 hg27) ?_
    refine lk (dt := some 64) R16_15_N rfl rfl rfl (opv_move rfl rfl h4) ?_
    obtain ⟨b29, i30, l31, c32, p28, hp33, h034, hj35, hv36, H⟩ := H
    refine lk (dt := some 65) R16_15_N rfl rfl rfl (ov_ixS rfl rfl rfl underlying26 sz40 rfl rfl hp33 h034 hj35 hv36) ?_
    obtain ⟨b37, i38, hp39, c40, hg44, c41, hg45, c42, hg46, c43, hg47, H⟩ := H
    refine lk (dt := some 66) R16_15_N rfl rfl rfl (ov_ldN rfl underlying40 rfl sz40 rfl rfl hp39 (getN_cons hg44 (getN_cons hg45 (getN_cons hg46 (getN_cons hg47 getN_nil))))) ?_
    obtain ⟨p48, aw49, hp50, ha51, H⟩ := H
    refine lk (dt := some 5) R16_15_N rfl rfl rfl (ov_alloc rfl z40 rfl rfl hp50 ha51) ?_
    obtain ⟨b53, i54, aw52, hp55, hw56, ho57, ha58, H⟩ := H
    refine lk (dt := none) R16_15_N rfl rfl rfl (ov_st rfl rfl rfl rfl rfl rfl sz40 hp55 hw56 ho57 ha58) ?_
    refine aops_nil ?_
    refine ago_seqE E16_39 ?_
    refine ago_cut (fun ρ => ρ 1 = m_1 ∧ ρ 3 = p_3 ∧ ρ 4 = .int .i64 i_4 ∧ ρ 5 = p48 ∧ True) ⟨h1, h3, h4, rfl, trivial⟩ (fun ρ ⟨h1, h3, h4, h5, _⟩ => ?_)
    refine ago_regE E16_40 (l := [0, 1, 2, 3, 4, 5]) rfl ?_
    refine lk (dt := some 67) R16_16_N rfl rfl rfl (opv_move rfl rfl h3) ?_
    obtain ⟨b60, i61, p59, hp62, hv63, H⟩ := H
    refine lk (dt := some 68) R16_16_N rfl rfl rfl (ov_fldA rfl rfl underlying40 rfl sz24 (by decide) h5 hp62 rfl hv63) ?_
    obtain ⟨b64, i65, x67, hp66, hg68, H⟩ := H
    refine lk (dt := some 69) R16_16_N rfl rfl rfl (ov_ldI rfl underlying24 rfl rfl hp66 hg68) ?_
    refine lk_call (dt := some 70) R16_16_N rfl rfl rfl (opc_of rfl rfl is51 (ma_cons rfl rfl)) H (fun _ _ h => ⟨rfl, h⟩) fun r69 aw70 H => ?_
    obtain ⟨v71, aw72, hq73, H⟩ := H
    refine lk (dt := some 71) R16_16_N rfl rfl rfl (ov_app rfl rfl rfl rfl underlying25 sz5 by5 underlying25 rfl z5 rfl (by decide) (by decide) rfl rfl hq73) ?_
    refine lk (dt := some 3) R16_16_N rfl rfl rfl (opv_assign rfl rfl rfl) ?_
    refine aops_nil ?_
    refine ago_seqE E16_41 ?_
    refine ago_regE E16_42 (l := [0, 1, 2, 3, 4, 5]) rfl ?_
    refine lk (dt := some 72) R16_17_N rfl rfl rfl (opv_move rfl rfl rfl) ?_
    obtain ⟨b75, i76, p74, hp77, hv78, H⟩ := H
    refine lk (dt := some 73) R16_17_N rfl rfl rfl (ov_fldA rfl rfl underlying40 rfl sz24 (by decide) h5 hp77 rfl hv78) ?_
    obtain ⟨b79, i80, x82, hp81, hg83, H⟩ := H
    refine lk (dt := some 74) R16_17_N rfl rfl rfl (ov_ldI rfl underlying24 rfl rfl hp81 hg83) ?_
    refine lk_call (dt := some 75) R16_17_N rfl rfl rfl (opc_of rfl rfl is51 (ma_cons rfl rfl)) H (fun _ _ h => ⟨rfl, h⟩) fun r84 aw85 H => ?_
    obtain ⟨v86, aw87, hq88, H⟩ := H
    refine lk (dt := some 76) R16_17_N rfl rfl rfl (ov_app rfl rfl rfl rfl underlying25 sz5 by5 underlying25 rfl z5 rfl (by decide) (by decide) rfl rfl hq88) ?_
    refine lk (dt := some 3) R16_17_N rfl rfl rfl (opv_assign rfl rfl rfl) ?_
    refine aops_nil ?_
    refine ago_seqE E16_43 ?_
    refine ago_cut (fun ρ => ρ 1 = m_1 ∧ ρ 3 = v86 ∧ ρ 4 = .int .i64 i_4 ∧ ρ 5 = p48 ∧ True) ⟨h1, rfl, h4, h5, trivial⟩ (fun ρ ⟨h1, h3, h4, h5, _⟩ => ?_)
    refine ago_regE E16_44 (l := [0, 1, 2, 3, 4, 5]) rfl ?_
    refine lk (dt := some 77) R16_18_N rfl rfl rfl (opv_move rfl rfl h3) ?_
    obtain ⟨b90, i91, p89, hp92, hv93, H⟩ := H
    refine lk (dt := some 78) R16_18_N rfl rfl rfl (ov_fldA rfl rfl underlying40 rfl sz24 (by decide) h5 hp92 rfl hv93) ?_
    obtain ⟨b94, i95, x97, hp96, hg98, H⟩ := H
    refine lk (dt := some 79) R16_18_N rfl rfl rfl (ov_ldI rfl underlying24 rfl rfl hp96 hg98) ?_
    refine lk_call (dt := some 80) R16_18_N rfl rfl rfl (opc_of rfl rfl is51 (ma_cons rfl rfl)) H (fun _ _ h => ⟨rfl, h⟩) fun r99 aw100 H => ?_
    obtain ⟨v101, aw102, hq103, H⟩ := H
    refine lk (dt := some 81) R16_18_N rfl rfl rfl (ov_app rfl rfl rfl rfl underlying25 sz5 by5 underlying25 rfl z5 rfl (by decide) (by decide) rfl rfl hq103) ?_
    refine lk (dt := some 3) R16_18_N rfl rfl rfl (opv_assign rfl rfl rfl) ?_
    refine aops_nil ?_
    refine ago_regE E16_45 (l := [0, 1, 2, 3, 4, 5]) rfl ?_
    refine lk (dt := some 82) R16_19_N rfl rfl rfl (opv_move rfl rfl rfl) ?_
    obtain ⟨b105, i106, p104, hp107, hv108, H⟩ := H
    refine lk (dt := some 83) R16_19_N rfl rfl rfl (ov_fldA rfl rfl underlying40 rfl sz25 (by decide) h5 hp107 rfl hv108) ?_
    obtain ⟨b109, i110, x112, hp111, hg113, H⟩ := H
    refine lk (dt := some 84) R16_19_N rfl rfl rfl (ov_ldV rfl underlying25 rfl rfl rfl hp111 hg113) ?_
    refine lk_call (dt := some 85) R16_19_N rfl rfl rfl (opc_of rfl rfl is53 (ma_cons rfl rfl)) H (fun _ _ h => ⟨rfl, h⟩) fun r114 aw115 H => ?_
    obtain ⟨v116, aw117, hq118, H⟩ := H
    refine lk (dt := some 86) R16_19_N rfl rfl rfl (ov_app rfl rfl rfl rfl underlying25 sz5 by5 underlying25 rfl z5 rfl (by decide) (by decide) rfl rfl hq118) ?_
    refine lk (dt := some 3) R16_19_N rfl rfl rfl (opv_assign rfl rfl rfl) ?_
    refine aops_nil ?_
    refine ago_inBlock ?_
    refine ago_cut (fun ρ => ρ 1 = m_1 ∧ ρ 3 = v116 ∧ ρ 4 = .int .i64 i_4 ∧ True) ⟨h1, rfl, h4, trivial⟩ (fun ρ ⟨h1, h3, h4, _⟩ => ?_)
    refine ago_regE E16_46 (l := [0, 1, 2]) rfl ?_
    refine lk (dt := some 60) R16_14_N rfl rfl rfl (opv_move rfl rfl h4) ?_
    refine lk (dt := some 61) R16_14_N rfl rfl rfl (opv_add rfl rfl rfl rfl rfl) ?_
    refine lk (dt := some 4) R16_14_N rfl rfl rfl (opv_assign rfl rfl rfl) ?_
    refine aops_nil ?_
    refine ago_inLoop ?_
    exact L2 _ m_1 v116 (IntKind.i64.wrap (i_4 + 1)) aw117 h1 h3 rfl H
  · replace H := cnd_f H hb17
    refine ago_exitE E16_34 rfl ?_
    refine ago_seqE E16_47 ?_
    refine ago_regE E16_48 (l := [0, 1, 2, 3, 4, 5]) rfl ?_
    refine lk (dt := some 87) R16_20_N rfl rfl rfl (opv_move rfl rfl h3) ?_
    obtain ⟨b120, i121, p119, hp122, hv123, H⟩ := H
    refine lk (dt := some 88) R16_20_N rfl rfl rfl (ov_fldA rfl rfl underlying46 rfl sz25 (by decide) h1 hp122 rfl hv123) ?_
    obtain ⟨b124, i125, x127, hp126, hg128, H⟩ := H
    refine lk (dt := some 89) R16_20_N rfl rfl rfl (ov_ldV rfl underlying25 rfl rfl rfl hp126 hg128) ?_
    refine lk_call (dt := some 90) R16_20_N rfl rfl rfl (opc_of rfl rfl is53 (ma_cons rfl rfl)) H (fun _ _ h => ⟨rfl, h⟩) fun r129 aw130 H => ?_
    obtain ⟨v131, aw132, hq133, H⟩ := H
    refine lk (dt := some 91) R16_20_N rfl rfl rfl (ov_app rfl rfl rfl rfl underlying25 sz5 by5 underlying25 rfl z5 rfl (by decide) (by decide) rfl rfl hq133) ?_
    refine lk (dt := some 3) R16_20_N rfl rfl rfl (opv_assign rfl rfl rfl) ?_
    refine aops_nil ?_
    refine ago_seqE E16_49 ?_
    refine ago_regE E16_50 (l := [0, 1, 2]) rfl ?_
    refine lk (dt := some 92) R16_21_N rfl rfl rfl (opv_move rfl rfl rfl) ?_
    refine lk_call (dt := some 93) R16_21_N rfl rfl rfl (opc_of rfl rfl is54 (ma_cons rfl rfl)) H (fun _ _ h => ⟨rfl, h⟩) fun r134 aw135 H => ?_
    refine lk (dt := some 2) R16_21_N rfl rfl rfl (opv_assign rfl rfl rfl) ?_
    refine aops_nil ?_
    exact ago_retE E16_51 (r := r134) (ares_1 rfl (oneT rfl)) rfl H
theorem S16_2_ok (Q : Value → AW → Prop) (E : List PanicEntry → AW → Prop)  : ∀ (n : Nat) (ρ : Env) (m_1 : Value) (p_3 : Value) (i_4 : Int) (aw : AW) (h1 : ρ 1 = m_1) (h3 : ρ 3 = p_3) (h4 : ρ 4 = .int .i64 i_4), S16_2 Q E  n m_1 p_3 i_4 aw →
    AGo prog 94 [.code C16_29, .inLoop C16_29, .inBlock 0, .code C16_47] ρ [] aw (RR prog f16 94 sh16 Q E)
  | 0, _, _, _, _, _, _, _, _ => fun H => H.elim
  | n + 1, ρ, m_1, p_3, i_4, aw, h1, h3, h4 => fun H => S16_2s_ok Q E  _ (S16_2_ok Q E  n) ρ m_1 p_3 i_4 aw h1 h3 h4 H
theorem S16_1_ok (Q : Value → AW → Prop) (E : List PanicEntry → AW → Prop)  (ρ : Env) (m_1 : Value) (p_3 : Value) (aw : AW) (h1 : ρ 1 = m_1) (h3 : ρ 3 = p_3) (H : S16_1 Q E  m_1 p_3 aw) :
    AGo prog 94 [.code C16_22] ρ [] aw (RR prog f16 94 sh16 Q E) := by
  unfold S16_1 at H
  refine ago_seqE E16_22 ?_
  refine ago_regE E16_23 (l := [0, 1, 2, 3, 4, 5, 6, 7]) rfl ?_
  refine lk (dt := some 48) R16_11_N rfl rfl rfl (opv_move rfl rfl h3) ?_
  obtain ⟨b137, i138, p136, hp139, hv140, H⟩ := H
  refine lk (dt := some 49) R16_11_N rfl rfl rfl (ov_fldA rfl rfl underlying46 rfl sz26 (by decide) h1 hp139 rfl hv140) ?_
  obtain ⟨b141, i142, x144, hp143, hg145, H⟩ := H
  refine lk (dt := some 50) R16_11_N rfl rfl rfl (ov_ldV rfl underlying26 rfl rfl rfl hp143 hg145) ?_
  obtain ⟨q147, l148, c149, n146, hv150, hn151, H⟩ := H
  refine lk (dt := some 51) R16_11_N rfl rfl rfl (ov_len rfl rfl rfl underlying26 rfl hv150 hn151) ?_
  refine lk (dt := some 52) R16_11_N rfl rfl rfl (opv_conv rfl rfl underlying3 underlying24 rfl) ?_
  refine lk_call (dt := some 53) R16_11_N rfl rfl rfl (opc_of rfl rfl is51 (ma_cons rfl rfl)) H (fun _ _ h => ⟨rfl, h⟩) fun r152 aw153 H => ?_
  obtain ⟨v154, aw155, hq156, H⟩ := H
  refine lk (dt := some 54) R16_11_N rfl rfl rfl (ov_app rfl rfl rfl rfl underlying25 sz5 by5 underlying25 rfl z5 rfl (by decide) (by decide) rfl rfl hq156) ?_
  refine lk (dt := some 3) R16_11_N rfl rfl rfl (opv_assign rfl rfl rfl) ?_
  refine aops_nil ?_
  refine ago_seqE E16_24 ?_
  refine ago_seqE E16_25 ?_
  refine ago_regE E16_26 (l := [0]) rfl ?_
  refine lk (dt := some 4) R16_12_N rfl rfl rfl (opv_assign rfl rfl rfl) ?_
  refine aops_nil ?_
  refine ago_blockE E16_27 ?_
  refine ago_loopE E16_28 ?_
  obtain ⟨n, H⟩ := H
  exact S16_2_ok Q E  n _ m_1 v154 0 aw155 h1 rfl rfl H
theorem S16_0_ok (Q : Value → AW → Prop) (E : List PanicEntry → AW → Prop)  (ρ : Env) (m_0_0 : Int) (m_0_1 : Int) (m_0_2 : Int) (m_0_3 : Int) (m_0_4 : Int) (m_0_5 : Int) (m_0_6 : Int) (m_0_7 : Bool) (m_0_8 : Value) (m_0_9 : Value) (aw : AW) (h0 : ρ 0 = .agg #[.int .u8 m_0_0, .int .i64 m_0_1, .int .i64 m_0_2, .int .u64 m_0_3, .int .u64 m_0_4, .int .u64 m_0_5, .int .u64 m_0_6, .bool m_0_7, m_0_8, m_0_9]) (H : S16_0 Q E  m_0_0 m_0_1 m_0_2 m_0_3 m_0_4 m_0_5 m_0_6 m_0_7 m_0_8 m_0_9 aw) :
    AGo prog 94 [.code C16_0] ρ [] aw (RR prog f16 94 sh16 Q E) := by
  unfold S16_0 at H
  refine ago_seqE E16_0 ?_
  refine ago_regE E16_1 (l := [0, 1]) rfl ?_
  obtain ⟨p157, aw158, hp159, ha160, H⟩ := H
  refine lk (dt := some 1) R16_0_N rfl rfl rfl (ov_box rfl rfl h0 rfl hp159 ha160) ?_
  refine lk (dt := some 2) R16_0_N rfl rfl rfl (opv_assign rfl rfl rfl) ?_
  refine aops_nil ?_
  refine ago_seqE E16_2 ?_
  refine ago_regE E16_3 (l := [0, 1, 2, 3, 4]) rfl ?_
  obtain ⟨b162, i163, p161, hp164, hv165, H⟩ := H
  refine lk (dt := some 6) R16_1_N rfl rfl rfl (ov_fldA rfl rfl underlying46 rfl sz5 (by decide) rfl hp164 rfl hv165) ?_
  obtain ⟨b166, i167, x169, hp168, hg170, H⟩ := H
  refine lk (dt := some 7) R16_1_N rfl rfl rfl (ov_ldI rfl underlying5 rfl rfl hp168 hg170) ?_
  refine lk (dt := some 8) R16_1_N rfl rfl rfl (opv_conv rfl rfl underlying5 underlying24 rfl) ?_
  refine lk_call (dt := some 9) R16_1_N rfl rfl rfl (opc_of rfl rfl is51 (ma_cons rfl rfl)) H (fun _ _ h => ⟨rfl, h⟩) fun r171 aw172 H => ?_
  refine lk (dt := some 3) R16_1_N rfl rfl rfl (opv_assign rfl rfl rfl) ?_
  refine aops_nil ?_
  refine ago_seqE E16_4 ?_
  refine ago_regE E16_5 (l := [0, 1, 2, 3, 4, 5]) rfl ?_
  refine lk (dt := some 10) R16_2_N rfl rfl rfl (opv_move rfl rfl rfl) ?_
  obtain ⟨b174, i175, p173, hp176, hv177, H⟩ := H
  refine lk (dt := some 11) R16_2_N rfl rfl rfl (ov_fldA rfl rfl underlying46 rfl sz3 (by decide) rfl hp176 rfl hv177) ?_
  obtain ⟨b178, i179, x181, hp180, hg182, H⟩ := H
  refine lk (dt := some 12) R16_2_N rfl rfl rfl (ov_ldI rfl underlying3 rfl rfl hp180 hg182) ?_
  refine lk_call (dt := some 13) R16_2_N rfl rfl rfl (opc_of rfl rfl is52 (ma_cons rfl rfl)) H (fun _ _ h => ⟨rfl, h⟩) fun r183 aw184 H => ?_
  obtain ⟨v185, aw186, hq187, H⟩ := H
  refine lk (dt := some 14) R16_2_N rfl rfl rfl (ov_app rfl rfl rfl rfl underlying25 sz5 by5 underlying25 rfl z5 rfl (by decide) (by decide) rfl rfl hq187) ?_
  refine lk (dt := some 3) R16_2_N rfl rfl rfl (opv_assign rfl rfl rfl) ?_
  refine aops_nil ?_
  refine ago_seqE E16_6 ?_
  refine ago_cut (fun ρ => ρ 1 = p157 ∧ ρ 3 = v185 ∧ True) ⟨rfl, rfl, trivial⟩ (fun ρ ⟨h1, h3, _⟩ => ?_)
  refine ago_regE E16_7 (l := [0, 1, 2, 3, 4, 5]) rfl ?_
  refine lk (dt := some 15) R16_3_N rfl rfl rfl (opv_move rfl rfl h3) ?_
  obtain ⟨b189, i190, p188, hp191, hv192, H⟩ := H
  refine lk (dt := some 16) R16_3_N rfl rfl rfl (ov_fldA rfl rfl underlying46 rfl sz3 (by decide) h1 hp191 rfl hv192) ?_
  obtain ⟨b193, i194, x196, hp195, hg197, H⟩ := H
  refine lk (dt := some 17) R16_3_N rfl rfl rfl (ov_ldI rfl underlying3 rfl rfl hp195 hg197) ?_
  refine lk_call (dt := some 18) R16_3_N rfl rfl rfl (opc_of rfl rfl is52 (ma_cons rfl rfl)) H (fun _ _ h => ⟨rfl, h⟩) fun r198 aw199 H => ?_
  obtain ⟨v200, aw201, hq202, H⟩ := H
  refine lk (dt := some 19) R16_3_N rfl rfl rfl (ov_app rfl rfl rfl rfl underlying25 sz5 by5 underlying25 rfl z5 rfl (by decide) (by decide) rfl rfl hq202) ?_
  refine lk (dt := some 3) R16_3_N rfl rfl rfl (opv_assign rfl rfl rfl) ?_
  refine aops_nil ?_
  refine ago_seqE E16_8 ?_
  refine ago_regE E16_9 (l := [0, 1, 2, 3, 4, 5]) rfl ?_
  refine lk (dt := some 20) R16_4_N rfl rfl rfl (opv_move rfl rfl rfl) ?_
  obtain ⟨b204, i205, p203, hp206, hv207, H⟩ := H
  refine lk (dt := some 21) R16_4_N rfl rfl rfl (ov_fldA rfl rfl underlying46 rfl sz24 (by decide) h1 hp206 rfl hv207) ?_
  obtain ⟨b208, i209, x211, hp210, hg212, H⟩ := H
  refine lk (dt := some 22) R16_4_N rfl rfl rfl (ov_ldI rfl underlying24 rfl rfl hp210 hg212) ?_
  refine lk_call (dt := some 23) R16_4_N rfl rfl rfl (opc_of rfl rfl is51 (ma_cons rfl rfl)) H (fun _ _ h => ⟨rfl, h⟩) fun r213 aw214 H => ?_
  obtain ⟨v215, aw216, hq217, H⟩ := H
  refine lk (dt := some 24) R16_4_N rfl rfl rfl (ov_app rfl rfl rfl rfl underlying25 sz5 by5 underlying25 rfl z5 rfl (by decide) (by decide) rfl rfl hq217) ?_
  refine lk (dt := some 3) R16_4_N rfl rfl rfl (opv_assign rfl rfl rfl) ?_
  refine aops_nil ?_
  refine ago_seqE E16_10 ?_
  refine ago_cut (fun ρ => ρ 1 = p157 ∧ ρ 3 = v215 ∧ True) ⟨h1, rfl, trivial⟩ (fun ρ ⟨h1, h3, _⟩ => ?_)
  refine ago_regE E16_11 (l := [0, 1, 2, 3, 4, 5]) rfl ?_
  refine lk (dt := some 25) R16_5_N rfl rfl rfl (opv_move rfl rfl h3) ?_
  obtain ⟨b219, i220, p218, hp221, hv222, H⟩ := H
  refine lk (dt := some 26) R16_5_N rfl rfl rfl (ov_fldA rfl rfl underlying46 rfl sz24 (by decide) h1 hp221 rfl hv222) ?_
  obtain ⟨b223, i224, x226, hp225, hg227, H⟩ := H
  refine lk (dt := some 27) R16_5_N rfl rfl rfl (ov_ldI rfl underlying24 rfl rfl hp225 hg227) ?_
  refine lk_call (dt := some 28) R16_5_N rfl rfl rfl (opc_of rfl rfl is51 (ma_cons rfl rfl)) H (fun _ _ h => ⟨rfl, h⟩) fun r228 aw229 H => ?_
  obtain ⟨v230, aw231, hq232, H⟩ := H
  refine lk (dt := some 29) R16_5_N rfl rfl rfl (ov_app rfl rfl rfl rfl underlying25 sz5 by5 underlying25 rfl z5 rfl (by decide) (by decide) rfl rfl hq232) ?_
  refine lk (dt := some 3) R16_5_N rfl rfl rfl (opv_assign rfl rfl rfl) ?_
  refine aops_nil ?_
  refine ago_seqE E16_12 ?_
  refine ago_regE E16_13 (l := [0, 1, 2, 3, 4, 5]) rfl ?_
  refine lk (dt := some 30) R16_6_N rfl rfl rfl (opv_move rfl rfl rfl) ?_
  obtain ⟨b234, i235, p233, hp236, hv237, H⟩ := H
  refine lk (dt := some 31) R16_6_N rfl rfl rfl (ov_fldA rfl rfl underlying46 rfl sz24 (by decide) h1 hp236 rfl hv237) ?_
  obtain ⟨b238, i239, x241, hp240, hg242, H⟩ := H
  refine lk (dt := some 32) R16_6_N rfl rfl rfl (ov_ldI rfl underlying24 rfl rfl hp240 hg242) ?_
  refine lk_call (dt := some 33) R16_6_N rfl rfl rfl (opc_of rfl rfl is51 (ma_cons rfl rfl)) H (fun _ _ h => ⟨rfl, h⟩) fun r243 aw244 H => ?_
  obtain ⟨v245, aw246, hq247, H⟩ := H
  refine lk (dt := some 34) R16_6_N rfl rfl rfl (ov_app rfl rfl rfl rfl underlying25 sz5 by5 underlying25 rfl z5 rfl (by decide) (by decide) rfl rfl hq247) ?_
  refine lk (dt := some 3) R16_6_N rfl rfl rfl (opv_assign rfl rfl rfl) ?_
  refine aops_nil ?_
  refine ago_seqE E16_14 ?_
  refine ago_cut (fun ρ => ρ 1 = p157 ∧ ρ 3 = v245 ∧ True) ⟨h1, rfl, trivial⟩ (fun ρ ⟨h1, h3, _⟩ => ?_)
  refine ago_regE E16_15 (l := [0, 1, 2, 3, 4, 5]) rfl ?_
  refine lk (dt := some 35) R16_7_N rfl rfl rfl (opv_move rfl rfl h3) ?_
  obtain ⟨b249, i250, p248, hp251, hv252, H⟩ := H
  refine lk (dt := some 36) R16_7_N rfl rfl rfl (ov_fldA rfl rfl underlying46 rfl sz24 (by decide) h1 hp251 rfl hv252) ?_
  obtain ⟨b253, i254, x256, hp255, hg257, H⟩ := H
  refine lk (dt := some 37) R16_7_N rfl rfl rfl (ov_ldI rfl underlying24 rfl rfl hp255 hg257) ?_
  refine lk_call (dt := some 38) R16_7_N rfl rfl rfl (opc_of rfl rfl is51 (ma_cons rfl rfl)) H (fun _ _ h => ⟨rfl, h⟩) fun r258 aw259 H => ?_
  obtain ⟨v260, aw261, hq262, H⟩ := H
  refine lk (dt := some 39) R16_7_N rfl rfl rfl (ov_app rfl rfl rfl rfl underlying25 sz5 by5 underlying25 rfl z5 rfl (by decide) (by decide) rfl rfl hq262) ?_
  refine lk (dt := some 3) R16_7_N rfl rfl rfl (opv_assign rfl rfl rfl) ?_
  refine aops_nil ?_
  refine ago_seqE E16_16 ?_
  refine ago_seqE E16_17 ?_
  refine ago_regE E16_18 (l := [0, 1]) rfl ?_
  obtain ⟨b264, i265, p263, hp266, hv267, H⟩ := H
  refine lk (dt := some 40) R16_8_N rfl rfl rfl (ov_fldA rfl rfl underlying46 rfl sz4 (by decide) h1 hp266 rfl hv267) ?_
  obtain ⟨b268, i269, x271, hp270, hg272, H⟩ := H
  refine lk (dt := some 41) R16_8_N rfl rfl rfl (ov_ldB rfl underlying4 rfl rfl hp270 hg272) ?_
  refine aops_nil ?_
  refine ago_condE  E16_19 rfl rfl (fun hb273 => ?_) (fun hb273 => ?_)
  · replace H := cnd_t H hb273
    refine ago_regE E16_20 (l := [0, 1, 2, 3]) rfl ?_
    refine lk (dt := some 42) R16_9_N rfl rfl rfl (opv_move rfl rfl rfl) ?_
    refine lk_call (dt := some 43) R16_9_N rfl rfl rfl (opc_of rfl rfl is51 (ma_cons rfl rfl)) H (fun _ _ h => ⟨rfl, h⟩) fun r274 aw275 H => ?_
    obtain ⟨v276, aw277, hq278, H⟩ := H
    refine lk (dt := some 44) R16_9_N rfl rfl rfl (ov_app rfl rfl rfl rfl underlying25 sz5 by5 underlying25 rfl z5 rfl (by decide) (by decide) rfl rfl hq278) ?_
    refine lk (dt := some 3) R16_9_N rfl rfl rfl (opv_assign rfl rfl rfl) ?_
    refine aops_nil ?_
    exact S16_1_ok Q E  _ p157 v276 aw277 h1 rfl H
  · replace H := cnd_f H hb273
    refine ago_regE E16_21 (l := [0, 1, 2, 3]) rfl ?_
    refine lk (dt := some 45) R16_10_N rfl rfl rfl (opv_move rfl rfl rfl) ?_
    refine lk_call (dt := some 46) R16_10_N rfl rfl rfl (opc_of rfl rfl is51 (ma_cons rfl rfl)) H (fun _ _ h => ⟨rfl, h⟩) fun r279 aw280 H => ?_
    obtain ⟨v281, aw282, hq283, H⟩ := H
    refine lk (dt := some 47) R16_10_N rfl rfl rfl (ov_app rfl rfl rfl rfl underlying25 sz5 by5 underlying25 rfl z5 rfl (by decide) (by decide) rfl rfl hq283) ?_
    refine lk (dt := some 3) R16_10_N rfl rfl rfl (opv_assign rfl rfl rfl) ?_
    refine aops_nil ?_
    exact S16_1_ok Q E  _ p157 v281 aw282 h1 rfl H
theorem F16_ok {Q : Value → AW → Prop} {E : List PanicEntry → AW → Prop} (m_0_0 : Int) (m_0_1 : Int) (m_0_2 : Int) (m_0_3 : Int) (m_0_4 : Int) (m_0_5 : Int) (m_0_6 : Int) (m_0_7 : Bool) (m_0_8 : Value) (m_0_9 : Value) (aw : AW) (H : S16_0 Q E m_0_0 m_0_1 m_0_2 m_0_3 m_0_4 m_0_5 m_0_6 m_0_7 m_0_8 m_0_9 aw) : CallP prog 16 [.agg #[.int .u8 m_0_0, .int .i64 m_0_1, .int .i64 m_0_2, .int .u64 m_0_3, .int .u64 m_0_4, .int .u64 m_0_5, .int .u64 m_0_6, .bool m_0_7, m_0_8, m_0_9]] aw sh16 Q E :=
  callP_of func16 C16_is rfl (Nat.le_of_ble_eq_true rfl) (S16_0_ok Q E _ m_0_0 m_0_1 m_0_2 m_0_3 m_0_4 m_0_5 m_0_6 m_0_7 m_0_8 m_0_9 aw rfl H)
def C5_0 : Code := bodyOf f5
theorem C5_is : f5.body = some C5_0 := by kernel_rfl
def C5_1 : Code := cl C5_0
def R5_0 : Array Oper := regOps C5_1
def C5_2 : Code := cr C5_0
def C5_3 : Code := cl C5_2
def C5_4 : Code := cl C5_3
def R5_1 : Array Oper := regOps C5_4
def C5_5 : Code := cr C5_3
def C5_6 : Code := cl C5_5
def C5_7 : Code := cl C5_6
def R5_2 : Array Oper := regOps C5_7
def C5_8 : Code := cr C5_6
def C5_9 : Code := cr C5_5
def C5_10 : Code := cr C5_2
def C5_11 : Code := cl C5_10
def C5_12 : Code := cl C5_11
def R5_3 : Array Oper := regOps C5_12
def C5_13 : Code := cr C5_11
def C5_14 : Code := cl C5_13
def C5_15 : Code := cl C5_14
def C5_16 : Code := cl C5_15
def C5_17 : Code := cl C5_16
def R5_4 : Array Oper := regOps C5_17
def C5_18 : Code := cr C5_16
def C5_19 : Code := cl C5_18
def C5_20 : Code := cr C5_18
def C5_21 : Code := cr C5_15
def C5_22 : Code := cl C5_21
def C5_23 : Code := cl C5_22
def C5_24 : Code := cl C5_23
def R5_6 : Array Oper := regOps C5_24
def C5_25 : Code := cr C5_23
def C5_26 : Code := cl C5_25
def C5_27 : Code := cl C5_26
def R5_7 : Array Oper := regOps C5_27
def C5_28 : Code := cr C5_26
def C5_29 : Code := cr C5_25
def C5_30 : Code := cr C5_21
def R5_5 : Array Oper := regOps C5_30
def C5_31 : Code := cr C5_10
def C5_32 : Code := cl C5_31
def R5_8 : Array Oper := regOps C5_32
def C5_33 : Code := cr C5_31
def C5_34 : Code := cl C5_33
def R5_9 : Array Oper := regOps C5_34
def C5_35 : Code := cr C5_33
def C5_36 : Code := cl C5_35
def R5_10 : Array Oper := regOps C5_36
def C5_37 : Code := cr C5_35
theorem R5_0_N : dstsOk 62 R5_0 = true := by decide +kernel
theorem E5_1 : C5_1 = .region 0 R5_0 false := rfl
theorem R5_1_N : dstsOk 62 R5_1 = true := by decide +kernel
theorem E5_4 : C5_4 = .region 1 R5_1 false := rfl
theorem R5_2_N : dstsOk 62 R5_2 = true := by decide +kernel
theorem E5_7 : C5_7 = .region 2 R5_2 false := rfl
theorem E5_8 : C5_8 = .ret := rfl
theorem E5_6 : C5_6 = .seq C5_7 C5_8 := rfl
theorem E5_9 : C5_9 = .skip := rfl
theorem E5_5 : C5_5 = .cond (.tmp 20) C5_6 C5_9 := rfl
theorem E5_3 : C5_3 = .seq C5_4 C5_5 := rfl
theorem R5_3_N : dstsOk 62 R5_3 = true := by decide +kernel
theorem E5_12 : C5_12 = .region 3 R5_3 false := rfl
theorem R5_4_N : dstsOk 62 R5_4 = true := by decide +kernel
theorem E5_17 : C5_17 = .region 4 R5_4 false := rfl
theorem E5_19 : C5_19 = .skip := rfl
theorem E5_20 : C5_20 = .exit 0 := rfl
theorem E5_18 : C5_18 = .cond (.tmp 26) C5_19 C5_20 := rfl
theorem E5_16 : C5_16 = .seq C5_17 C5_18 := rfl
theorem R5_6_N : dstsOk 62 R5_6 = true := by decide +kernel
theorem E5_24 : C5_24 = .region 6 R5_6 false := rfl
theorem R5_7_N : dstsOk 62 R5_7 = true := by decide +kernel
theorem E5_27 : C5_27 = .region 7 R5_7 false := rfl
theorem E5_28 : C5_28 = .ret := rfl
theorem E5_26 : C5_26 = .seq C5_27 C5_28 := rfl
theorem E5_29 : C5_29 = .skip := rfl
theorem E5_25 : C5_25 = .cond (.tmp 36) C5_26 C5_29 := rfl
theorem E5_23 : C5_23 = .seq C5_24 C5_25 := rfl
theorem E5_22 : C5_22 = .block 1 C5_23 := rfl
theorem R5_5_N : dstsOk 62 R5_5 = true := by decide +kernel
theorem E5_30 : C5_30 = .region 5 R5_5 false := rfl
theorem E5_21 : C5_21 = .seq C5_22 C5_30 := rfl
theorem E5_15 : C5_15 = .seq C5_16 C5_21 := rfl
theorem E5_14 : C5_14 = .loop C5_15 := rfl
theorem E5_13 : C5_13 = .block 0 C5_14 := rfl
theorem E5_11 : C5_11 = .seq C5_12 C5_13 := rfl
theorem R5_8_N : dstsOk 62 R5_8 = true := by decide +kernel
theorem E5_32 : C5_32 = .region 8 R5_8 false := rfl
theorem R5_9_N : dstsOk 62 R5_9 = true := by decide +kernel
theorem E5_34 : C5_34 = .region 9 R5_9 false := rfl
theorem R5_10_N : dstsOk 62 R5_10 = true := by decide +kernel
theorem R5_10_O : linOk R5_10 [0, 1, 2] [(3, [0, 1], []), (4, [0, 1], [5, 6, 7, 8, 9, 10, 11, 12, 14]), (13, [14], []), (15, [], []), (16, [], [17, 18])] = true := by decide +kernel
theorem E5_36 : C5_36 = .region 10 R5_10 true := rfl
theorem E5_37 : C5_37 = .ret := rfl
theorem E5_35 : C5_35 = .seq C5_36 C5_37 := rfl
theorem E5_33 : C5_33 = .seq C5_34 C5_35 := rfl
theorem E5_31 : C5_31 = .seq C5_32 C5_33 := rfl
theorem E5_10 : C5_10 = .seq C5_11 C5_31 := rfl
theorem E5_2 : C5_2 = .seq C5_3 C5_10 := rfl
theorem E5_0 : C5_0 = .seq C5_1 C5_2 := rfl
def S5_1s (Q : Bool → AW → Prop) (E : List PanicEntry → AW → Prop)  (nx1 : Value → Int → AW → Prop) (m_1 : Value) (i_3 : Int) (aw : AW) : Prop :=
  fldA m_1 8 fun p1 =>
  ldV aw p1 fun x9 =>
  slen x9 fun n11 =>
  cnd (decide (i_3 < n11)) (fldA m_1 8 fun p18 =>
  ldV aw p18 fun x26 =>
  ixS x26 i_3 4 fun p28 =>
  fldA p28 3 fun p37 =>
  ldV aw p37 fun x45 =>
  slen x45 fun n47 =>
  cnd (decide (4000 < n47)) (Q true aw) (nx1 m_1 (IntKind.i64.wrap (i_3 + 1)) aw)) (ptr m_1 fun b54 i55 =>
  gI .u8 aw b54 i55 fun c57 =>
  gI .i64 aw b54 (i55 + 1) fun c58 =>
  gI .i64 aw b54 (i55 + 2) fun c59 =>
  gI .u64 aw b54 (i55 + 3) fun c60 =>
  gI .u64 aw b54 (i55 + 4) fun c61 =>
  gI .u64 aw b54 (i55 + 5) fun c62 =>
  gI .u64 aw b54 (i55 + 6) fun c63 =>
  gB aw b54 (i55 + 7) fun c64 =>
  gV aw b54 (i55 + 8) fun c65 =>
  gV aw b54 (i55 + 9) fun c66 =>
  CallP prog 15 [.agg #[.int .u8 c57, .int .i64 c58, .int .i64 c59, .int .u64 c60, .int .u64 c61, .int .u64 c62, .int .u64 c63, .bool c64, c65, c66]] aw sh15 (fun r77 aw78 =>
  CallP prog 11 [r77] aw78 sh11 (fun r79 aw80 =>
  alc aw80 [.int .u8 0, .int .i64 0, .int .i64 0, .int .u64 0, .int .u64 0, .int .u64 0, .int .u64 0, .bool false, (.slice none 0 0), (.slice none 0 0)] 43 0 fun p81 aw82 =>
  st aw82 p81 [.int .u8 r79.1, .int .i64 r79.2.1, .int .i64 r79.2.2.1, .int .u64 r79.2.2.2.1, .int .u64 r79.2.2.2.2.1, .int .u64 r79.2.2.2.2.2.1, .int .u64 r79.2.2.2.2.2.2.1, .bool r79.2.2.2.2.2.2.2.1, r79.2.2.2.2.2.2.2.2.1, r79.2.2.2.2.2.2.2.2.2.1] fun aw85 =>
  toS aw85 r77 fun s92 =>
  ptr m_1 fun b99 i100 =>
  gI .u8 aw85 b99 i100 fun c102 =>
  gI .i64 aw85 b99 (i100 + 1) fun c103 =>
  gI .i64 aw85 b99 (i100 + 2) fun c104 =>
  gI .u64 aw85 b99 (i100 + 3) fun c105 =>
  gI .u64 aw85 b99 (i100 + 4) fun c106 =>
  gI .u64 aw85 b99 (i100 + 5) fun c107 =>
  gI .u64 aw85 b99 (i100 + 6) fun c108 =>
  gB aw85 b99 (i100 + 7) fun c109 =>
  gV aw85 b99 (i100 + 8) fun c110 =>
  gV aw85 b99 (i100 + 9) fun c111 =>
  CallP prog 14 [.agg #[.int .u8 c102, .int .i64 c103, .int .i64 c104, .int .u64 c105, .int .u64 c106, .int .u64 c107, .int .u64 c108, .bool c109, c110, c111]] aw85 sh14 (fun r122 aw123 =>
  againS aw123 r77 s92 ∧ CallP prog 16 [.agg #[.int .u8 r122.1, .int .i64 r122.2.1, .int .i64 r122.2.2.1, .int .u64 r122.2.2.2.1, .int .u64 r122.2.2.2.2.1, .int .u64 r122.2.2.2.2.2.1, .int .u64 r122.2.2.2.2.2.2.1, .bool r122.2.2.2.2.2.2.2.1, r122.2.2.2.2.2.2.2.2.1, r122.2.2.2.2.2.2.2.2.2]] aw123 sh16 (fun r124 aw125 =>
  againS aw125 r77 s92 ∧ toS aw125 r124 fun s126 =>
  cnd (decide (s92 = s126)) (cnd (decide (r79.2.2.2.2.2.2.2.2.2.2 = 0)) (ptr p81 fun b135 i136 =>
  gI .u8 aw125 b135 i136 fun c138 =>
  gI .i64 aw125 b135 (i136 + 1) fun c139 =>
  gI .i64 aw125 b135 (i136 + 2) fun c140 =>
  gI .u64 aw125 b135 (i136 + 3) fun c141 =>
  gI .u64 aw125 b135 (i136 + 4) fun c142 =>
  gI .u64 aw125 b135 (i136 + 5) fun c143 =>
  gI .u64 aw125 b135 (i136 + 6) fun c144 =>
  gB aw125 b135 (i136 + 7) fun c145 =>
  gV aw125 b135 (i136 + 8) fun c146 =>
  gV aw125 b135 (i136 + 9) fun c147 =>
  ptr m_1 fun b158 i159 =>
  gI .u8 aw125 b158 i159 fun c161 =>
  gI .i64 aw125 b158 (i159 + 1) fun c162 =>
  gI .i64 aw125 b158 (i159 + 2) fun c163 =>
  gI .u64 aw125 b158 (i159 + 3) fun c164 =>
  gI .u64 aw125 b158 (i159 + 4) fun c165 =>
  gI .u64 aw125 b158 (i159 + 5) fun c166 =>
  gI .u64 aw125 b158 (i159 + 6) fun c167 =>
  gB aw125 b158 (i159 + 7) fun c168 =>
  gV aw125 b158 (i159 + 8) fun c169 =>
  gV aw125 b158 (i159 + 9) fun c170 =>
  CallP prog 14 [.agg #[.int .u8 c138, .int .i64 c139, .int .i64 c140, .int .u64 c141, .int .u64 c142, .int .u64 c143, .int .u64 c144, .bool c145, c146, c147]] aw125 sh14 (fun r181 aw182 =>
  aw182.get b158 i159 = some (.int .u8 c161) ∧ aw182.get b158 (i159 + 1) = some (.int .i64 c162) ∧ aw182.get b158 (i159 + 2) = some (.int .i64 c163) ∧ aw182.get b158 (i159 + 3) = some (.int .u64 c164) ∧ aw182.get b158 (i159 + 4) = some (.int .u64 c165) ∧ aw182.get b158 (i159 + 5) = some (.int .u64 c166) ∧ aw182.get b158 (i159 + 6) = some (.int .u64 c167) ∧ aw182.get b158 (i159 + 7) = some (.bool c168) ∧ aw182.get b158 (i159 + 8) = some (c169) ∧ aw182.get b158 (i159 + 9) = some (c170) ∧ CallP prog 14 [.agg #[.int .u8 c161, .int .i64 c162, .int .i64 c163, .int .u64 c164, .int .u64 c165, .int .u64 c166, .int .u64 c167, .bool c168, c169, c170]] aw182 sh14 (fun r183 aw184 =>
  CallP prog 13 [.agg #[.int .u8 r181.1, .int .i64 r181.2.1, .int .i64 r181.2.2.1, .int .u64 r181.2.2.2.1, .int .u64 r181.2.2.2.2.1, .int .u64 r181.2.2.2.2.2.1, .int .u64 r181.2.2.2.2.2.2.1, .bool r181.2.2.2.2.2.2.2.1, r181.2.2.2.2.2.2.2.2.1, r181.2.2.2.2.2.2.2.2.2], .agg #[.int .u8 r183.1, .int .i64 r183.2.1, .int .i64 r183.2.2.1, .int .u64 r183.2.2.2.1, .int .u64 r183.2.2.2.2.1, .int .u64 r183.2.2.2.2.2.1, .int .u64 r183.2.2.2.2.2.2.1, .bool r183.2.2.2.2.2.2.2.1, r183.2.2.2.2.2.2.2.2.1, r183.2.2.2.2.2.2.2.2.2]] aw184 sh13 (fun r185 aw186 =>
  Q r185 aw186) E) E) E) (Q false aw125)) (Q false aw125)) E) E) E) E)
def S5_1 (Q : Bool → AW → Prop) (E : List PanicEntry → AW → Prop)  : Nat → Value → Int → AW → Prop
  | 0 => fun _ _ _ => False
  | n + 1 => S5_1s Q E  (S5_1 Q E  n)
def S5_0 (Q : Bool → AW → Prop) (E : List PanicEntry → AW → Prop)  (m_0_0 : Int) (m_0_1 : Int) (m_0_2 : Int) (m_0_3 : Int) (m_0_4 : Int) (m_0_5 : Int) (m_0_6 : Int) (m_0_7 : Bool) (m_0_8 : Value) (m_0_9 : Value) (aw : AW) : Prop :=
  alc aw [.int .u8 m_0_0, .int .i64 m_0_1, .int .i64 m_0_2, .int .u64 m_0_3, .int .u64 m_0_4, .int .u64 m_0_5, .int .u64 m_0_6, .bool m_0_7, m_0_8, m_0_9] 43 0 fun p187 aw188 =>
  CallP prog 7 [] aw188 sh7 (fun r191 aw192 =>
  cnd (!r191) (CallP prog 7 [] aw192 sh7 (fun r195 aw196 =>
  Q r195 aw196) E) (fldA p187 8 fun p197 =>
  ldV aw192 p197 fun x205 =>
  slen x205 fun n207 =>
  cnd (decide (50 < n207)) (CallP prog 7 [] aw192 sh7 (fun r215 aw216 =>
  Q r215 aw216) E) (fldA p187 9 fun p217 =>
  ldV aw192 p217 fun x225 =>
  slen x225 fun n227 =>
  cnd (decide (5000 < n227)) (CallP prog 7 [] aw192 sh7 (fun r234 aw235 =>
  Q r234 aw235) E) (∃ n, S5_1 Q E  n p187 0 aw192)))) E
theorem S5_1s_ok (Q : Bool → AW → Prop) (E : List PanicEntry → AW → Prop)  (nx1 : Value → Int → AW → Prop) (L1 : ∀ (ρ : Env) (m_1 : Value) (i_3 : Int) (aw : AW) (h1 : ρ 1 = m_1) (h3 : ρ 3 = .int .i64 i_3), nx1 m_1 i_3 aw → AGo prog 62 [.code C5_15, .inLoop C5_15, .inBlock 0, .code C5_31] ρ [] aw (RR prog f5 62 sh5 Q E)) (ρ : Env) (m_1 : Value) (i_3 : Int) (aw : AW) (h1 : ρ 1 = m_1) (h3 : ρ 3 = .int .i64 i_3) (H : S5_1s Q E  nx1 m_1 i_3 aw) :
    AGo prog 62 [.code C5_15, .inLoop C5_15, .inBlock 0, .code C5_31] ρ [] aw (RR prog f5 62 sh5 Q E) := by
  unfold S5_1s at H
  refine ago_seqE E5_15 ?_
  refine ago_seqE E5_16 ?_
  refine ago_regE E5_17 (l := [0, 1, 2, 3, 4]) rfl ?_
  refine lk (dt := some 22) R5_4_N rfl rfl rfl (opv_move rfl rfl h3) ?_
  obtain ⟨b2, i3, p1, hp4, hv5, H⟩ := H
  refine lk (dt := some 23) R5_4_N rfl rfl rfl (ov_fldA rfl rfl underlying43 rfl sz26 (by decide) h1 hp4 rfl hv5) ?_
  obtain ⟨b6, i7, x9, hp8, hg10, H⟩ := H
  refine lk (dt := some 24) R5_4_N rfl rfl rfl (ov_ldV rfl underlying26 rfl rfl rfl hp8 hg10) ?_
  obtain ⟨q12, l13, c14, n11, hv15, hn16, H⟩ := H
  refine lk (dt := some 25) R5_4_N rfl rfl rfl (ov_len rfl rfl rfl underlying26 rfl hv15 hn16) ?_
  refine lk (dt := some 26) R5_4_N rfl rfl rfl (opv_lt rfl rfl rfl rfl rfl) ?_
  refine aops_nil ?_
  refine ago_condE  E5_18 rfl rfl (fun hb17 => ?_) (fun hb17 => ?_)
  · replace H := cnd_t H hb17
    refine ago_skipE E5_19 ?_
    refine ago_seqE E5_21 ?_
    refine ago_blockE E5_22 ?_
    refine ago_seqE E5_23 ?_
    refine ago_regE E5_24 (l := [0, 1, 2, 3, 4, 5, 6, 7]) rfl ?_
    obtain ⟨b19, i20, p18, hp21, hv22, H⟩ := H
    refine lk (dt := some 29) R5_6_N rfl rfl rfl (ov_fldA rfl rfl underlying43 rfl sz26 (by decide) h1 hp21 rfl hv22) ?_
    obtain ⟨b23, i24, x26, hp25, hg27, H⟩ := H
    refine lk (dt := some 30) R5_6_N rfl rfl rfl (ov_ldV rfl underlying26 rfl rfl rfl hp25 hg27) ?_
    refine lk (dt := some 31) R5_6_N rfl rfl rfl (opv_move rfl rfl h3) ?_
    obtain ⟨b29, i30, l31, c32, p28, hp33, h034, hj35, hv36, H⟩ := H
    refine lk (dt := some 32) R5_6_N rfl rfl rfl (ov_ixS rfl rfl rfl underlying26 sz40 rfl rfl hp33 h034 hj35 hv36) ?_
    obtain ⟨b38, i39, p37, hp40, hv41, H⟩ := H
    refine lk (dt := some 33) R5_6_N rfl rfl rfl (ov_fldA rfl rfl underlying40 rfl sz25 (by decide) rfl hp40 rfl hv41) ?_
    obtain ⟨b42, i43, x45, hp44, hg46, H⟩ := H
    refine lk (dt := some 34) R5_6_N rfl rfl rfl (ov_ldV rfl underlying25 rfl rfl rfl hp44 hg46) ?_
    obtain ⟨q48, l49, c50, n47, hv51, hn52, H⟩ := H
    refine lk (dt := some 35) R5_6_N rfl rfl rfl (ov_len rfl rfl rfl underlying25 rfl hv51 hn52) ?_
    refine lk (dt := some 36) R5_6_N rfl rfl rfl (opv_gt rfl rfl rfl rfl rfl) ?_
    refine aops_nil ?_
    refine ago_condE  E5_25 rfl rfl (fun hb53 => ?_) (fun hb53 => ?_)
    · replace H := cnd_t H hb53
      refine ago_seqE E5_26 ?_
      refine ago_regE E5_27 (l := [0]) rfl ?_
      refine lk (dt := some 2) R5_7_N rfl rfl rfl (opv_assign rfl rfl rfl) ?_
      refine aops_nil ?_
      exact ago_retE E5_28 (r := true) (ares_1 rfl (oneT rfl)) rfl H
    · replace H := cnd_f H hb53
      refine ago_skipE E5_29 ?_
      refine ago_inBlock ?_
      refine ago_cut (fun ρ => ρ 1 = m_1 ∧ ρ 3 = .int .i64 i_3 ∧ True) ⟨h1, h3, trivial⟩ (fun ρ ⟨h1, h3, _⟩ => ?_)
      refine ago_regE E5_30 (l := [0, 1, 2]) rfl ?_
      refine lk (dt := some 27) R5_5_N rfl rfl rfl (opv_move rfl rfl h3) ?_
      refine lk (dt := some 28) R5_5_N rfl rfl rfl (opv_add rfl rfl rfl rfl rfl) ?_
      refine lk (dt := some 3) R5_5_N rfl rfl rfl (opv_assign rfl rfl rfl) ?_
      refine aops_nil ?_
      refine ago_inLoop ?_
      exact L1 _ m_1 (IntKind.i64.wrap (i_3 + 1)) aw h1 rfl H
  · replace H := cnd_f H hb17
    refine ago_exitE E5_20 rfl ?_
    refine ago_seqE E5_31 ?_
    refine ago_regE E5_32 (l := [0, 1, 2]) rfl ?_
    obtain ⟨b54, i55, hp56, c57, hg67, c58, hg68, c59, hg69, c60, hg70, c61, hg71, c62, hg72, c63, hg73, c64, hg74, c65, hg75, c66, hg76, H⟩ := H
    refine lk (dt := some 37) R5_8_N rfl rfl rfl (ov_ldN rfl underlying43 rfl sz43 rfl h1 hp56 (getN_cons hg67 (getN_cons hg68 (getN_cons hg69 (getN_cons hg70 (getN_cons hg71 (getN_cons hg72 (getN_cons hg73 (getN_cons hg74 (getN_cons hg75 (getN_cons hg76 getN_nil))))))))))) ?_
    refine lk_call (dt := some 38) R5_8_N rfl rfl rfl (opc_of rfl rfl is15 (ma_cons rfl rfl)) H (fun _ _ h => ⟨rfl, h⟩) fun r77 aw78 H => ?_
    refine lk (dt := some 4) R5_8_N rfl rfl rfl (opv_assign rfl rfl rfl) ?_
    refine aops_nil ?_
    refine ago_seqE E5_33 ?_
    refine ago_regE E5_34 (l := [0, 1, 2, 3, 4, 5, 6, 7]) rfl ?_
    refine lk (dt := some 40) R5_9_N rfl rfl rfl (opv_move rfl rfl rfl) ?_
    refine lk_call (dt := some 41) R5_9_N rfl rfl rfl (opc_of rfl rfl is11 (ma_cons rfl rfl)) H (fun _ _ h => ⟨rfl, h⟩) fun r79 aw80 H => ?_
    refine lk (dt := some 39) R5_9_N rfl rfl rfl (opv_move rfl rfl rfl) ?_
    refine lk (dt := some 42) R5_9_N rfl rfl rfl (opv_extract rfl rfl rfl rfl) ?_
    refine lk (dt := some 43) R5_9_N rfl rfl rfl (opv_extract rfl rfl rfl rfl) ?_
    obtain ⟨p81, aw82, hp83, ha84, H⟩ := H
    refine lk (dt := some 5) R5_9_N rfl rfl rfl (ov_alloc rfl z43 rfl rfl hp83 ha84) ?_
    obtain ⟨b86, i87, aw85, hp88, hw89, ho90, ha91, H⟩ := H
    refine lk (dt := none) R5_9_N rfl rfl rfl (ov_st rfl rfl rfl rfl rfl rfl sz43 hp88 hw89 ho90 ha91) ?_
    refine lk (dt := some 6) R5_9_N rfl rfl rfl (opv_assign rfl rfl rfl) ?_
    refine aops_nil ?_
    refine ago_seqE E5_35 ?_
    refine ago_cut (fun ρ => ρ 1 = m_1 ∧ ρ 4 = r77 ∧ ρ 5 = p81 ∧ ρ 6 = .int .i64 r79.2.2.2.2.2.2.2.2.2.2 ∧ True) ⟨h1, rfl, rfl, rfl, trivial⟩ (fun ρ ⟨h1, h4, h5, h6, _⟩ => ?_)
    obtain ⟨l97, n96, s92, hs93, hq94, hv95, H⟩ := H
    have hl98 := srcB_len hs93
    obtain ⟨b99, i100, hp101, c102, hg112, c103, hg113, c104, hg114, c105, hg115, c106, hg116, c107, hg117, c108, hg118, c109, hg119, c110, hg120, c111, hg121, H⟩ := H
    refine ago_drawH (p := [0, 1, 2]) (tl := [(3, [0, 1], []), (4, [0, 1], [5, 6, 7, 8, 9, 10, 11, 12, 14]), (13, [14], []), (15, [], []), (16, [], [17, 18])]) (hv := [(0, r77), (1, Value.string s92), (2, Value.agg #[.int .u8 c102, .int .i64 c103, .int .i64 c104, .int .u64 c105, .int .u64 c106, .int .u64 c107, .int .u64 c108, .bool c109, c110, c111])]) E5_36 mixed R5_10_N R5_10_O rfl (pv_cons rfl (pv_cons rfl (pv_cons rfl (pv_nil _))))
      (ffc (d := 44) (v := r77) (hd_v rfl fun ρ hρ => ⟨rfl, opv_move rfl rfl ((hρ 4 (lmem rfl)).trans h4)⟩) rfl rfl
      (ffc (d := 45) (v := .string s92) (hd_v rfl fun ρ hρ => ⟨rfl, ov_toS rfl rfl underlying25 underlying9 underlying5 ((hρ 44 (lmem rfl)).trans rfl) hs93 hq94 hv95⟩) rfl rfl
      (ffc (d := 46) (v := .agg #[.int .u8 c102, .int .i64 c103, .int .i64 c104, .int .u64 c105, .int .u64 c106, .int .u64 c107, .int .u64 c108, .bool c109, c110, c111]) (hd_v rfl fun ρ hρ => ⟨rfl, ov_ldN rfl underlying43 rfl sz43 rfl ((hρ 1 (lmem rfl)).trans h1) hp101 (getN_cons hg112 (getN_cons hg113 (getN_cons hg114 (getN_cons hg115 (getN_cons hg116 (getN_cons hg117 (getN_cons hg118 (getN_cons hg119 (getN_cons hg120 (getN_cons hg121 getN_nil))))))))))⟩) rfl rfl
      ffn))) ?_
    refine lt_call (dt := some 47) rfl rfl (fun ρ hρ => ⟨rfl, opc_of rfl rfl is14 (ma_cons ((hρ 46 (lmem rfl)).trans rfl) rfl)⟩) H (fun _ _ h _ => ⟨rfl, h⟩) fun r122 aw123 H => ?_
    obtain ⟨hs93, H⟩ := H
    replace hs93 := hs93 _ n96 hl98 hq94 hv95
    refine lt_next (l := [0, 1]) (hv := []) rfl rfl (pv_nil _)
      (ffc (d := 44) (v := r77) (hd_v rfl fun ρ hρ => ⟨rfl, opv_move rfl rfl ((hρ 4 (lmem rfl)).trans h4)⟩) rfl rfl
      (ffc (d := 45) (v := .string s92) (hd_v rfl fun ρ hρ => ⟨rfl, ov_toS rfl rfl underlying25 underlying9 underlying5 ((hρ 44 (lmem rfl)).trans rfl) hs93 hq94 hv95⟩) rfl rfl
      ffn)) ?_
    refine lt_call (dt := some 48) rfl rfl (fun ρ hρ => ⟨rfl, opc_of rfl rfl is16 (ma_cons ((hρ 47 (lmem rfl)).trans rfl) rfl)⟩) H (fun _ _ h _ => ⟨rfl, h⟩) fun r124 aw125 H => ?_
    obtain ⟨hs93, H⟩ := H
    replace hs93 := hs93 _ n96 hl98 hq94 hv95
    obtain ⟨l131, n130, s126, hs127, hq128, hv129, H⟩ := H
    have hl132 := srcB_len hs127
    rcases Bool.eq_false_or_eq_true (decide (s92 = s126)) with hb133 | hb133
    · replace H := cnd_t H hb133
      rcases Bool.eq_false_or_eq_true (decide (r79.2.2.2.2.2.2.2.2.2.2 = 0)) with hb134 | hb134
      · replace H := cnd_t H hb134
        obtain ⟨b135, i136, hp137, c138, hg148, c139, hg149, c140, hg150, c141, hg151, c142, hg152, c143, hg153, c144, hg154, c145, hg155, c146, hg156, c147, hg157, H⟩ := H
        obtain ⟨b158, i159, hp160, c161, hg171, c162, hg172, c163, hg173, c164, hg174, c165, hg175, c166, hg176, c167, hg177, c168, hg178, c169, hg179, c170, hg180, H⟩ := H
        refine lt_next (l := [0, 1, 5, 6, 7, 8, 9, 10, 11, 12, 14]) (hv := [(5, Value.string s126), (6, Value.bool (decide (s92 = s126))), (7, Value.bool (decide (s92 = s126))), (8, Value.int .i64 r79.2.2.2.2.2.2.2.2.2.2), (9, Value.bool (decide (r79.2.2.2.2.2.2.2.2.2.2 = 0))), (10, Value.bool (decide (r79.2.2.2.2.2.2.2.2.2.2 = 0))), (11, Value.bool (decide (r79.2.2.2.2.2.2.2.2.2.2 = 0))), (12, Value.agg #[.int .u8 c138, .int .i64 c139, .int .i64 c140, .int .u64 c141, .int .u64 c142, .int .u64 c143, .int .u64 c144, .bool c145, c146, c147]), (14, Value.agg #[.int .u8 c161, .int .i64 c162, .int .i64 c163, .int .u64 c164, .int .u64 c165, .int .u64 c166, .int .u64 c167, .bool c168, c169, c170])]) rfl rfl (pv_cons rfl (pv_cons rfl (pv_cons rfl (pv_cons rfl (pv_cons rfl (pv_cons rfl (pv_cons rfl (pv_cons rfl (pv_cons rfl (pv_nil _))))))))))
          (ffc (d := 44) (v := r77) (hd_v rfl fun ρ hρ => ⟨rfl, opv_move rfl rfl ((hρ 4 (lmem rfl)).trans h4)⟩) rfl rfl
          (ffc (d := 45) (v := .string s92) (hd_v rfl fun ρ hρ => ⟨rfl, ov_toS rfl rfl underlying25 underlying9 underlying5 ((hρ 44 (lmem rfl)).trans rfl) hs93 hq94 hv95⟩) rfl rfl
          (ffc (d := 49) (v := .string s126) (hd_v rfl fun ρ hρ => ⟨rfl, ov_toS rfl rfl underlying25 underlying9 underlying5 ((hρ 48 (lmem rfl)).trans rfl) hs127 hq128 hv129⟩) rfl rfl
          (ffc (d := 50) (v := .bool (decide (s92 = s126))) (hd_v rfl fun ρ hρ => ⟨rfl, opv_eqS rfl rfl rfl ((hρ 45 (lmem rfl)).trans rfl) ((hρ 49 (lmem rfl)).trans rfl)⟩) rfl rfl
          (ffc (d := 51) (v := .bool (decide (s92 = s126))) (hd_v rfl fun ρ hρ => ⟨rfl, opv_move rfl rfl ((hρ 50 (lmem rfl)).trans rfl)⟩) rfl rfl
          (ffc (d := 52) (v := .int .i64 r79.2.2.2.2.2.2.2.2.2.2) (hd_v rfl fun ρ hρ => ⟨⟨_, rfl, .inl ⟨_, ((hρ 51 (lmem rfl)).trans rfl), gq hb133 rfl⟩⟩, opv_move rfl rfl ((hρ 6 (lmem rfl)).trans h6)⟩) rfl rfl
          (ffc (d := 53) (v := .bool (decide (r79.2.2.2.2.2.2.2.2.2.2 = 0))) (hd_v rfl fun ρ hρ => ⟨⟨_, rfl, .inl ⟨_, ((hρ 51 (lmem rfl)).trans rfl), gq hb133 rfl⟩⟩, opv_eqI rfl rfl rfl ((hρ 52 (lmem rfl)).trans rfl) rfl⟩) rfl rfl
          (ffc (d := 54) (v := .bool (decide (r79.2.2.2.2.2.2.2.2.2.2 = 0))) (hd_v rfl fun ρ hρ => ⟨rfl, ov_pickT rfl rfl rfl rfl ((hρ 51 (lmem rfl)).trans rfl) hb133 ((hρ 53 (lmem rfl)).trans rfl)⟩) rfl rfl
          (ffc (d := 55) (v := .bool (decide (r79.2.2.2.2.2.2.2.2.2.2 = 0))) (hd_v rfl fun ρ hρ => ⟨rfl, opv_move rfl rfl ((hρ 54 (lmem rfl)).trans rfl)⟩) rfl rfl
          (ffc (d := 56) (v := .agg #[.int .u8 c138, .int .i64 c139, .int .i64 c140, .int .u64 c141, .int .u64 c142, .int .u64 c143, .int .u64 c144, .bool c145, c146, c147]) (hd_v rfl fun ρ hρ => ⟨⟨_, rfl, .inl ⟨_, ((hρ 55 (lmem rfl)).trans rfl), gq hb134 rfl⟩⟩, ov_ldN rfl underlying43 rfl sz43 rfl ((hρ 5 (lmem rfl)).trans h5) hp137 (getN_cons hg148 (getN_cons hg149 (getN_cons hg150 (getN_cons hg151 (getN_cons hg152 (getN_cons hg153 (getN_cons hg154 (getN_cons hg155 (getN_cons hg156 (getN_cons hg157 getN_nil))))))))))⟩) rfl rfl
          (ffc (d := 58) (v := .agg #[.int .u8 c161, .int .i64 c162, .int .i64 c163, .int .u64 c164, .int .u64 c165, .int .u64 c166, .int .u64 c167, .bool c168, c169, c170]) (hd_v rfl fun ρ hρ => ⟨⟨_, rfl, .inl ⟨_, ((hρ 55 (lmem rfl)).trans rfl), gq hb134 rfl⟩⟩, ov_ldN rfl underlying43 rfl sz43 rfl ((hρ 1 (lmem rfl)).trans h1) hp160 (getN_cons hg171 (getN_cons hg172 (getN_cons hg173 (getN_cons hg174 (getN_cons hg175 (getN_cons hg176 (getN_cons hg177 (getN_cons hg178 (getN_cons hg179 (getN_cons hg180 getN_nil))))))))))⟩) rfl rfl
          ffn))))))))))) ?_
        refine lt_call (dt := some 57) rfl rfl (fun ρ hρ => ⟨⟨_, rfl, .inl ⟨_, ((hρ 55 (lmem rfl)).trans rfl), gq hb134 rfl⟩⟩, opc_of rfl rfl is14 (ma_cons ((hρ 56 (lmem rfl)).trans rfl) rfl)⟩) H (fun _ _ h _ => ⟨rfl, h⟩) fun r181 aw182 H => ?_
        obtain ⟨hg171, H⟩ := H
        obtain ⟨hg172, H⟩ := H
        obtain ⟨hg173, H⟩ := H
        obtain ⟨hg174, H⟩ := H
        obtain ⟨hg175, H⟩ := H
        obtain ⟨hg176, H⟩ := H
        obtain ⟨hg177, H⟩ := H
        obtain ⟨hg178, H⟩ := H
        obtain ⟨hg179, H⟩ := H
        obtain ⟨hg180, H⟩ := H
        refine lt_next (l := [14]) (hv := []) rfl rfl (pv_nil _)
          (ffc (d := 58) (v := .agg #[.int .u8 c161, .int .i64 c162, .int .i64 c163, .int .u64 c164, .int .u64 c165, .int .u64 c166, .int .u64 c167, .bool c168, c169, c170]) (hd_v rfl fun ρ hρ => ⟨⟨_, rfl, .inl ⟨_, ((hρ 55 (lmem rfl)).trans rfl), gq hb134 rfl⟩⟩, ov_ldN rfl underlying43 rfl sz43 rfl ((hρ 1 (lmem rfl)).trans h1) hp160 (getN_cons hg171 (getN_cons hg172 (getN_cons hg173 (getN_cons hg174 (getN_cons hg175 (getN_cons hg176 (getN_cons hg177 (getN_cons hg178 (getN_cons hg179 (getN_cons hg180 getN_nil))))))))))⟩) rfl rfl
          ffn) ?_
        refine lt_call (dt := some 59) rfl rfl (fun ρ hρ => ⟨⟨_, rfl, .inl ⟨_, ((hρ 55 (lmem rfl)).trans rfl), gq hb134 rfl⟩⟩, opc_of rfl rfl is14 (ma_cons ((hρ 58 (lmem rfl)).trans rfl) rfl)⟩) H (fun _ _ h _ => ⟨rfl, h⟩) fun r183 aw184 H => ?_
        refine lt_next (l := []) (hv := []) rfl rfl (pv_nil _)
          ffn ?_
        refine lt_call (dt := some 60) rfl rfl (fun ρ hρ => ⟨⟨_, rfl, .inl ⟨_, ((hρ 55 (lmem rfl)).trans rfl), gq hb134 rfl⟩⟩, opc_of rfl rfl is13 (ma_cons ((hρ 57 (lmem rfl)).trans rfl) (ma_cons ((hρ 59 (lmem rfl)).trans rfl) rfl))⟩) H (fun _ _ h _ => ⟨rfl, h⟩) fun r185 aw186 H => ?_
        refine lt_next (l := [17, 18]) (hv := [(17, Value.bool r185), (18, Value.bool r185)]) rfl rfl (pv_cons rfl (pv_cons rfl (pv_nil _)))
          (ffc (d := 61) (v := .bool r185) (hd_v rfl fun ρ hρ => ⟨rfl, ov_pickT rfl rfl rfl rfl ((hρ 55 (lmem rfl)).trans rfl) hb134 ((hρ 60 (lmem rfl)).trans rfl)⟩) rfl rfl
          (ffc (d := 2) (v := .bool r185) (hd_v rfl fun ρ hρ => ⟨rfl, opv_assign rfl rfl ((hρ 61 (lmem rfl)).trans rfl)⟩) rfl rfl
          ffn)) ?_
        refine lt_end ?_
        exact ago_retE E5_37 (r := r185) (ares_1 rfl (oneT rfl)) rfl H
      · replace H := cnd_f H hb134
        refine lt_next (l := [0, 1, 5, 6, 7, 8, 9, 10, 11, 12, 14]) (hv := [(5, Value.string s126), (6, Value.bool (decide (s92 = s126))), (7, Value.bool (decide (s92 = s126))), (8, Value.int .i64 r79.2.2.2.2.2.2.2.2.2.2), (9, Value.bool (decide (r79.2.2.2.2.2.2.2.2.2.2 = 0))), (10, Value.bool (decide (r79.2.2.2.2.2.2.2.2.2.2 = 0))), (11, Value.bool (decide (r79.2.2.2.2.2.2.2.2.2.2 = 0))), (12, undef), (14, undef)]) rfl rfl (pv_cons rfl (pv_cons rfl (pv_cons rfl (pv_cons rfl (pv_cons rfl (pv_cons rfl (pv_cons rfl (pv_cons rfl (pv_cons rfl (pv_nil _))))))))))
          (ffc (d := 44) (v := r77) (hd_v rfl fun ρ hρ => ⟨rfl, opv_move rfl rfl ((hρ 4 (lmem rfl)).trans h4)⟩) rfl rfl
          (ffc (d := 45) (v := .string s92) (hd_v rfl fun ρ hρ => ⟨rfl, ov_toS rfl rfl underlying25 underlying9 underlying5 ((hρ 44 (lmem rfl)).trans rfl) hs93 hq94 hv95⟩) rfl rfl
          (ffc (d := 49) (v := .string s126) (hd_v rfl fun ρ hρ => ⟨rfl, ov_toS rfl rfl underlying25 underlying9 underlying5 ((hρ 48 (lmem rfl)).trans rfl) hs127 hq128 hv129⟩) rfl rfl
          (ffc (d := 50) (v := .bool (decide (s92 = s126))) (hd_v rfl fun ρ hρ => ⟨rfl, opv_eqS rfl rfl rfl ((hρ 45 (lmem rfl)).trans rfl) ((hρ 49 (lmem rfl)).trans rfl)⟩) rfl rfl
          (ffc (d := 51) (v := .bool (decide (s92 = s126))) (hd_v rfl fun ρ hρ => ⟨rfl, opv_move rfl rfl ((hρ 50 (lmem rfl)).trans rfl)⟩) rfl rfl
          (ffc (d := 52) (v := .int .i64 r79.2.2.2.2.2.2.2.2.2.2) (hd_v rfl fun ρ hρ => ⟨⟨_, rfl, .inl ⟨_, ((hρ 51 (lmem rfl)).trans rfl), gq hb133 rfl⟩⟩, opv_move rfl rfl ((hρ 6 (lmem rfl)).trans h6)⟩) rfl rfl
          (ffc (d := 53) (v := .bool (decide (r79.2.2.2.2.2.2.2.2.2.2 = 0))) (hd_v rfl fun ρ hρ => ⟨⟨_, rfl, .inl ⟨_, ((hρ 51 (lmem rfl)).trans rfl), gq hb133 rfl⟩⟩, opv_eqI rfl rfl rfl ((hρ 52 (lmem rfl)).trans rfl) rfl⟩) rfl rfl
          (ffc (d := 54) (v := .bool (decide (r79.2.2.2.2.2.2.2.2.2.2 = 0))) (hd_v rfl fun ρ hρ => ⟨rfl, ov_pickT rfl rfl rfl rfl ((hρ 51 (lmem rfl)).trans rfl) hb133 ((hρ 53 (lmem rfl)).trans rfl)⟩) rfl rfl
          (ffc (d := 55) (v := .bool (decide (r79.2.2.2.2.2.2.2.2.2.2 = 0))) (hd_v rfl fun ρ hρ => ⟨rfl, opv_move rfl rfl ((hρ 54 (lmem rfl)).trans rfl)⟩) rfl rfl
          (ffc (d := 56) (v := undef) (hd_s rfl (fun ρ hρ => ⟨_, rfl, .inl ⟨_, ((hρ 55 (lmem rfl)).trans rfl), gq hb134 rfl⟩⟩) rfl) rfl rfl
          (ffc (d := 58) (v := undef) (hd_s rfl (fun ρ hρ => ⟨_, rfl, .inl ⟨_, ((hρ 55 (lmem rfl)).trans rfl), gq hb134 rfl⟩⟩) rfl) rfl rfl
          ffn))))))))))) ?_
        refine lt_skip (dt := some 57) rfl rfl (fun ρ hρ => ⟨_, rfl, .inl ⟨_, ((hρ 55 (lmem rfl)).trans rfl), gq hb134 rfl⟩⟩) ?_
        refine lt_next (l := [14]) (hv := []) rfl rfl (pv_nil _)
          (ffc (d := 58) (v := undef) (hd_s rfl (fun ρ hρ => ⟨_, rfl, .inl ⟨_, ((hρ 55 (lmem rfl)).trans rfl), gq hb134 rfl⟩⟩) rfl) rfl rfl
          ffn) ?_
        refine lt_skip (dt := some 59) rfl rfl (fun ρ hρ => ⟨_, rfl, .inl ⟨_, ((hρ 55 (lmem rfl)).trans rfl), gq hb134 rfl⟩⟩) ?_
        refine lt_next (l := []) (hv := []) rfl rfl (pv_nil _)
          ffn ?_
        refine lt_skip (dt := some 60) rfl rfl (fun ρ hρ => ⟨_, rfl, .inl ⟨_, ((hρ 55 (lmem rfl)).trans rfl), gq hb134 rfl⟩⟩) ?_
        refine lt_next (l := [17, 18]) (hv := [(17, Value.bool false), (18, Value.bool false)]) rfl rfl (pv_cons rfl (pv_cons rfl (pv_nil _)))
          (ffc (d := 61) (v := .bool false) (hd_v rfl fun ρ hρ => ⟨rfl, ov_pickF rfl rfl rfl rfl ((hρ 55 (lmem rfl)).trans rfl) hb134 rfl⟩) rfl rfl
          (ffc (d := 2) (v := .bool false) (hd_v rfl fun ρ hρ => ⟨rfl, opv_assign rfl rfl ((hρ 61 (lmem rfl)).trans rfl)⟩) rfl rfl
          ffn)) ?_
        refine lt_end ?_
        exact ago_retE E5_37 (r := false) (ares_1 rfl (oneT rfl)) rfl H
    · replace H := cnd_f H hb133
      refine lt_next (l := [0, 1, 5, 6, 7, 8, 9, 10, 11, 12, 14]) (hv := [(5, Value.string s126), (6, Value.bool (decide (s92 = s126))), (7, Value.bool (decide (s92 = s126))), (8, undef), (9, undef), (10, Value.bool false), (11, Value.bool false), (12, undef), (14, undef)]) rfl rfl (pv_cons rfl (pv_cons rfl (pv_cons rfl (pv_cons rfl (pv_cons rfl (pv_cons rfl (pv_cons rfl (pv_cons rfl (pv_cons rfl (pv_nil _))))))))))
        (ffc (d := 44) (v := r77) (hd_v rfl fun ρ hρ => ⟨rfl, opv_move rfl rfl ((hρ 4 (lmem rfl)).trans h4)⟩) rfl rfl
        (ffc (d := 45) (v := .string s92) (hd_v rfl fun ρ hρ => ⟨rfl, ov_toS rfl rfl underlying25 underlying9 underlying5 ((hρ 44 (lmem rfl)).trans rfl) hs93 hq94 hv95⟩) rfl rfl
        (ffc (d := 49) (v := .string s126) (hd_v rfl fun ρ hρ => ⟨rfl, ov_toS rfl rfl underlying25 underlying9 underlying5 ((hρ 48 (lmem rfl)).trans rfl) hs127 hq128 hv129⟩) rfl rfl
        (ffc (d := 50) (v := .bool (decide (s92 = s126))) (hd_v rfl fun ρ hρ => ⟨rfl, opv_eqS rfl rfl rfl ((hρ 45 (lmem rfl)).trans rfl) ((hρ 49 (lmem rfl)).trans rfl)⟩) rfl rfl
        (ffc (d := 51) (v := .bool (decide (s92 = s126))) (hd_v rfl fun ρ hρ => ⟨rfl, opv_move rfl rfl ((hρ 50 (lmem rfl)).trans rfl)⟩) rfl rfl
        (ffc (d := 52) (v := undef) (hd_s rfl (fun ρ hρ => ⟨_, rfl, .inl ⟨_, ((hρ 51 (lmem rfl)).trans rfl), gq hb133 rfl⟩⟩) rfl) rfl rfl
        (ffc (d := 53) (v := undef) (hd_s rfl (fun ρ hρ => ⟨_, rfl, .inl ⟨_, ((hρ 51 (lmem rfl)).trans rfl), gq hb133 rfl⟩⟩) rfl) rfl rfl
        (ffc (d := 54) (v := .bool false) (hd_v rfl fun ρ hρ => ⟨rfl, ov_pickF rfl rfl rfl rfl ((hρ 51 (lmem rfl)).trans rfl) hb133 rfl⟩) rfl rfl
        (ffc (d := 55) (v := .bool false) (hd_v rfl fun ρ hρ => ⟨rfl, opv_move rfl rfl ((hρ 54 (lmem rfl)).trans rfl)⟩) rfl rfl
        (ffc (d := 56) (v := undef) (hd_s rfl (fun ρ hρ => ⟨_, rfl, .inl ⟨_, ((hρ 55 (lmem rfl)).trans rfl), gq rfl rfl⟩⟩) rfl) rfl rfl
        (ffc (d := 58) (v := undef) (hd_s rfl (fun ρ hρ => ⟨_, rfl, .inl ⟨_, ((hρ 55 (lmem rfl)).trans rfl), gq rfl rfl⟩⟩) rfl) rfl rfl
        ffn))))))))))) ?_
      refine lt_skip (dt := some 57) rfl rfl (fun ρ hρ => ⟨_, rfl, .inl ⟨_, ((hρ 55 (lmem rfl)).trans rfl), gq rfl rfl⟩⟩) ?_
      refine lt_next (l := [14]) (hv := []) rfl rfl (pv_nil _)
        (ffc (d := 58) (v := undef) (hd_s rfl (fun ρ hρ => ⟨_, rfl, .inl ⟨_, ((hρ 55 (lmem rfl)).trans rfl), gq rfl rfl⟩⟩) rfl) rfl rfl
        ffn) ?_
      refine lt_skip (dt := some 59) rfl rfl (fun ρ hρ => ⟨_, rfl, .inl ⟨_, ((hρ 55 (lmem rfl)).trans rfl), gq rfl rfl⟩⟩) ?_
      refine lt_next (l := []) (hv := []) rfl rfl (pv_nil _)
        ffn ?_
      refine lt_skip (dt := some 60) rfl rfl (fun ρ hρ => ⟨_, rfl, .inl ⟨_, ((hρ 55 (lmem rfl)).trans rfl), gq rfl rfl⟩⟩) ?_
      refine lt_next (l := [17, 18]) (hv := [(17, Value.bool false), (18, Value.bool false)]) rfl rfl (pv_cons rfl (pv_cons rfl (pv_nil _)))
        (ffc (d := 61) (v := .bool false) (hd_v rfl fun ρ hρ => ⟨rfl, ov_pickF rfl rfl rfl rfl ((hρ 55 (lmem rfl)).trans rfl) rfl rfl⟩) rfl rfl
        (ffc (d := 2) (v := .bool false) (hd_v rfl fun ρ hρ => ⟨rfl, opv_assign rfl rfl ((hρ 61 (lmem rfl)).trans rfl)⟩) rfl rfl
        ffn)) ?_
      refine lt_end ?_
      exact ago_retE E5_37 (r := false) (ares_1 rfl (oneT rfl)) rfl H
theorem S5_1_ok (Q : Bool → AW → Prop) (E : List PanicEntry → AW → Prop)  : ∀ (n : Nat) (ρ : Env) (m_1 : Value) (i_3 : Int) (aw : AW) (h1 : ρ 1 = m_1) (h3 : ρ 3 = .int .i64 i_3), S5_1 Q E  n m_1 i_3 aw →
    AGo prog 62 [.code C5_15, .inLoop C5_15, .inBlock 0, .code C5_31] ρ [] aw (RR prog f5 62 sh5 Q E)
  | 0, _, _, _, _, _, _ => fun H => H.elim
  | n + 1, ρ, m_1, i_3, aw, h1, h3 => fun H => S5_1s_ok Q E  _ (S5_1_ok Q E  n) ρ m_1 i_3 aw h1 h3 H
theorem S5_0_ok (Q : Bool → AW → Prop) (E : List PanicEntry → AW → Prop)  (ρ : Env) (m_0_0 : Int) (m_0_1 : Int) (m_0_2 : Int) (m_0_3 : Int) (m_0_4 : Int) (m_0_5 : Int) (m_0_6 : Int) (m_0_7 : Bool) (m_0_8 : Value) (m_0_9 : Value) (aw : AW) (h0 : ρ 0 = .agg #[.int .u8 m_0_0, .int .i64 m_0_1, .int .i64 m_0_2, .int .u64 m_0_3, .int .u64 m_0_4, .int .u64 m_0_5, .int .u64 m_0_6, .bool m_0_7, m_0_8, m_0_9]) (H : S5_0 Q E  m_0_0 m_0_1 m_0_2 m_0_3 m_0_4 m_0_5 m_0_6 m_0_7 m_0_8 m_0_9 aw) :
    AGo prog 62 [.code C5_0] ρ [] aw (RR prog f5 62 sh5 Q E) := by
  unfold S5_0 at H
  refine ago_seqE E5_0 ?_
  refine ago_regE E5_1 (l := [0, 1]) rfl ?_
  obtain ⟨p187, aw188, hp189, ha190, H⟩ := H
  refine lk (dt := some 1) R5_0_N rfl rfl rfl (ov_box rfl rfl h0 rfl hp189 ha190) ?_
  refine lk (dt := some 2) R5_0_N rfl rfl rfl (opv_assign rfl rfl rfl) ?_
  refine aops_nil ?_
  refine ago_seqE E5_2 ?_
  refine ago_seqE E5_3 ?_
  refine ago_regE E5_4 (l := [0, 1, 2, 3, 4, 5, 6, 7, 8, 9, 10, 11, 12, 13]) rfl ?_
  refine lk_call (dt := some 7) R5_1_N rfl rfl rfl (opc_of rfl rfl is7 rfl) H (fun _ _ h => ⟨rfl, h⟩) fun r191 aw192 H => ?_
  refine lk (dt := some 8) R5_1_N rfl rfl rfl (opv_not rfl rfl rfl) ?_
  refine lk (dt := some 9) R5_1_N rfl rfl rfl (opv_move rfl rfl rfl) ?_
  rcases Bool.eq_false_or_eq_true (!r191) with hb193 | hb193
  · replace H := cnd_t H hb193
    refine lk_skip (dt := some 10) R5_1_N rfl rfl ⟨_, rfl, .inl ⟨_, rfl, gq hb193 rfl⟩⟩ ?_
    refine lk_skip (dt := some 11) R5_1_N rfl rfl ⟨_, rfl, .inl ⟨_, rfl, gq hb193 rfl⟩⟩ ?_
    refine lk_skip (dt := some 12) R5_1_N rfl rfl ⟨_, rfl, .inl ⟨_, rfl, gq hb193 rfl⟩⟩ ?_
    refine lk_skip (dt := some 13) R5_1_N rfl rfl ⟨_, rfl, .inl ⟨_, rfl, gq hb193 rfl⟩⟩ ?_
    refine lk (dt := some 14) R5_1_N rfl rfl rfl (ov_pickT rfl rfl rfl rfl rfl hb193 rfl) ?_
    refine lk (dt := some 15) R5_1_N rfl rfl rfl (opv_move rfl rfl rfl) ?_
    refine lk_skip (dt := some 16) R5_1_N rfl rfl ⟨_, rfl, .inl ⟨_, rfl, gq rfl rfl⟩⟩ ?_
    refine lk_skip (dt := some 17) R5_1_N rfl rfl ⟨_, rfl, .inl ⟨_, rfl, gq rfl rfl⟩⟩ ?_
    refine lk_skip (dt := some 18) R5_1_N rfl rfl ⟨_, rfl, .inl ⟨_, rfl, gq rfl rfl⟩⟩ ?_
    refine lk_skip (dt := some 19) R5_1_N rfl rfl ⟨_, rfl, .inl ⟨_, rfl, gq rfl rfl⟩⟩ ?_
    refine lk (dt := some 20) R5_1_N rfl rfl rfl (ov_pickT rfl rfl rfl rfl rfl rfl rfl) ?_
    refine aops_nil ?_
    refine ago_condE  E5_5 rfl rfl (fun h => ?_) (fun h => tf h)
    refine ago_seqE E5_6 ?_
    refine ago_regE E5_7 (l := [0, 1]) rfl ?_
    refine lk_call (dt := some 21) R5_2_N rfl rfl rfl (opc_of rfl rfl is7 rfl) H (fun _ _ h => ⟨rfl, h⟩) fun r195 aw196 H => ?_
    refine lk (dt := some 2) R5_2_N rfl rfl rfl (opv_assign rfl rfl rfl) ?_
    refine aops_nil ?_
    exact ago_retE E5_8 (r := r195) (ares_1 rfl (oneT rfl)) rfl H
  · replace H := cnd_f H hb193
    obtain ⟨b198, i199, p197, hp200, hv201, H⟩ := H
    refine lk (dt := some 10) R5_1_N rfl rfl ⟨_, rfl, .inl ⟨_, rfl, gq hb193 rfl⟩⟩ (ov_fldA rfl rfl underlying43 rfl sz26 (by decide) rfl hp200 rfl hv201) ?_
    obtain ⟨b202, i203, x205, hp204, hg206, H⟩ := H
    refine lk (dt := some 11) R5_1_N rfl rfl ⟨_, rfl, .inl ⟨_, rfl, gq hb193 rfl⟩⟩ (ov_ldV rfl underlying26 rfl rfl rfl hp204 hg206) ?_
    obtain ⟨q208, l209, c210, n207, hv211, hn212, H⟩ := H
    refine lk (dt := some 12) R5_1_N rfl rfl ⟨_, rfl, .inl ⟨_, rfl, gq hb193 rfl⟩⟩ (ov_len rfl rfl rfl underlying26 rfl hv211 hn212) ?_
    refine lk (dt := some 13) R5_1_N rfl rfl ⟨_, rfl, .inl ⟨_, rfl, gq hb193 rfl⟩⟩ (opv_gt rfl rfl rfl rfl rfl) ?_
    refine lk (dt := some 14) R5_1_N rfl rfl rfl (ov_pickF rfl rfl rfl rfl rfl hb193 rfl) ?_
    refine lk (dt := some 15) R5_1_N rfl rfl rfl (opv_move rfl rfl rfl) ?_
    rcases Bool.eq_false_or_eq_true (decide (50 < n207)) with hb213 | hb213
    · replace H := cnd_t H hb213
      refine lk_skip (dt := some 16) R5_1_N rfl rfl ⟨_, rfl, .inl ⟨_, rfl, gq hb213 rfl⟩⟩ ?_
      refine lk_skip (dt := some 17) R5_1_N rfl rfl ⟨_, rfl, .inl ⟨_, rfl, gq hb213 rfl⟩⟩ ?_
      refine lk_skip (dt := some 18) R5_1_N rfl rfl ⟨_, rfl, .inl ⟨_, rfl, gq hb213 rfl⟩⟩ ?_
      refine lk_skip (dt := some 19) R5_1_N rfl rfl ⟨_, rfl, .inl ⟨_, rfl, gq hb213 rfl⟩⟩ ?_
      refine lk (dt := some 20) R5_1_N rfl rfl rfl (ov_pickT rfl rfl rfl rfl rfl hb213 rfl) ?_
      refine aops_nil ?_
      refine ago_condE  E5_5 rfl rfl (fun h => ?_) (fun h => tf h)
      refine ago_seqE E5_6 ?_
      refine ago_regE E5_7 (l := [0, 1]) rfl ?_
      refine lk_call (dt := some 21) R5_2_N rfl rfl rfl (opc_of rfl rfl is7 rfl) H (fun _ _ h => ⟨rfl, h⟩) fun r215 aw216 H => ?_
      refine lk (dt := some 2) R5_2_N rfl rfl rfl (opv_assign rfl rfl rfl) ?_
      refine aops_nil ?_
      exact ago_retE E5_8 (r := r215) (ares_1 rfl (oneT rfl)) rfl H
    · replace H := cnd_f H hb213
      obtain ⟨b218, i219, p217, hp220, hv221, H⟩ := H
      refine lk (dt := some 16) R5_1_N rfl rfl ⟨_, rfl, .inl ⟨_, rfl, gq hb213 rfl⟩⟩ (ov_fldA rfl rfl underlying43 rfl sz25 (by decide) rfl hp220 rfl hv221) ?_
      obtain ⟨b222, i223, x225, hp224, hg226, H⟩ := H
      refine lk (dt := some 17) R5_1_N rfl rfl ⟨_, rfl, .inl ⟨_, rfl, gq hb213 rfl⟩⟩ (ov_ldV rfl underlying25 rfl rfl rfl hp224 hg226) ?_
      obtain ⟨q228, l229, c230, n227, hv231, hn232, H⟩ := H
      refine lk (dt := some 18) R5_1_N rfl rfl ⟨_, rfl, .inl ⟨_, rfl, gq hb213 rfl⟩⟩ (ov_len rfl rfl rfl underlying25 rfl hv231 hn232) ?_
      refine lk (dt := some 19) R5_1_N rfl rfl ⟨_, rfl, .inl ⟨_, rfl, gq hb213 rfl⟩⟩ (opv_gt rfl rfl rfl rfl rfl) ?_
      refine lk (dt := some 20) R5_1_N rfl rfl rfl (ov_pickF rfl rfl rfl rfl rfl hb213 rfl) ?_
      refine aops_nil ?_
      refine ago_condE  E5_5 rfl rfl (fun hb233 => ?_) (fun hb233 => ?_)
      · replace H := cnd_t H hb233
        refine ago_seqE E5_6 ?_
        refine ago_regE E5_7 (l := [0, 1]) rfl ?_
        refine lk_call (dt := some 21) R5_2_N rfl rfl rfl (opc_of rfl rfl is7 rfl) H (fun _ _ h => ⟨rfl, h⟩) fun r234 aw235 H => ?_
        refine lk (dt := some 2) R5_2_N rfl rfl rfl (opv_assign rfl rfl rfl) ?_
        refine aops_nil ?_
        exact ago_retE E5_8 (r := r234) (ares_1 rfl (oneT rfl)) rfl H
      · replace H := cnd_f H hb233
        refine ago_skipE E5_9 ?_
        refine ago_seqE E5_10 ?_
        refine ago_seqE E5_11 ?_
        refine ago_cut (fun ρ => ρ 1 = p187 ∧ True) ⟨rfl, trivial⟩ (fun ρ ⟨h1, _⟩ => ?_)
        refine ago_regE E5_12 (l := [0]) rfl ?_
        refine lk (dt := some 3) R5_3_N rfl rfl rfl (opv_assign rfl rfl rfl) ?_
        refine aops_nil ?_
        refine ago_blockE E5_13 ?_
        refine ago_loopE E5_14 ?_
        obtain ⟨n, H⟩ := H
        exact S5_1_ok Q E  n _ p187 0 aw192 h1 rfl H
theorem F5_ok {Q : Bool → AW → Prop} {E : List PanicEntry → AW → Prop} (m_0_0 : Int) (m_0_1 : Int) (m_0_2 : Int) (m_0_3 : Int) (m_0_4 : Int) (m_0_5 : Int) (m_0_6 : Int) (m_0_7 : Bool) (m_0_8 : Value) (m_0_9 : Value) (aw : AW) (H : S5_0 Q E m_0_0 m_0_1 m_0_2 m_0_3 m_0_4 m_0_5 m_0_6 m_0_7 m_0_8 m_0_9 aw) : CallP prog 5 [.agg #[.int .u8 m_0_0, .int .i64 m_0_1, .int .i64 m_0_2, .int .u64 m_0_3, .int .u64 m_0_4, .int .u64 m_0_5, .int .u64 m_0_6, .bool m_0_7, m_0_8, m_0_9]] aw sh5 Q E :=
  callP_of func5 C5_is rfl (Nat.le_of_ble_eq_true rfl) (S5_0_ok Q E _ m_0_0 m_0_1 m_0_2 m_0_3 m_0_4 m_0_5 m_0_6 m_0_7 m_0_8 m_0_9 aw rfl H)
end
end Go.Proofs.Try
