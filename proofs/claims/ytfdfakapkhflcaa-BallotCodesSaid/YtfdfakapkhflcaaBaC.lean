/- Printed by a program of the prover: what the Go functions of this seat do, in steps. -/
import Derived.Test.YtfdfakapkhflcaaBaF
import Derived.Test.YtfdfakapkhflcaaBaA
import Derived.Test.YtfdfakapkhflcaaBaB
set_option linter.unusedSectionVars false
set_option linter.unusedSimpArgs false
set_option linter.unusedVariables false
namespace Go.Proofs.Try
open Go Go.Am Go.RowKit
set_option maxHeartbeats 4000000
set_option maxRecDepth 100000
noncomputable section
variable [SymE]
def C11_0 : Code := bodyOf f11
theorem C11_is : f11.body = some C11_0 := by kernel_rfl
def C11_1 : Code := cl C11_0
def R11_0 : Array Oper := regOps C11_1
def C11_2 : Code := cr C11_0
def C11_3 : Code := cl C11_2
def R11_1 : Array Oper := regOps C11_3
def C11_4 : Code := cr C11_2
def C11_5 : Code := cl C11_4
def C11_6 : Code := cl C11_5
def R11_2 : Array Oper := regOps C11_6
def C11_7 : Code := cr C11_5
def C11_8 : Code := cl C11_7
def C11_9 : Code := cl C11_8
def R11_3 : Array Oper := regOps C11_9
def C11_10 : Code := cr C11_8
def C11_11 : Code := cr C11_7
def C11_12 : Code := cr C11_4
def C11_13 : Code := cl C11_12
def R11_4 : Array Oper := regOps C11_13
def C11_14 : Code := cr C11_12
def C11_15 : Code := cl C11_14
def R11_5 : Array Oper := regOps C11_15
def C11_16 : Code := cr C11_14
def C11_17 : Code := cl C11_16
def C11_18 : Code := cl C11_17
def R11_6 : Array Oper := regOps C11_18
def C11_19 : Code := cr C11_17
def C11_20 : Code := cl C11_19
def C11_21 : Code := cl C11_20
def C11_22 : Code := cl C11_21
def C11_23 : Code := cl C11_22
def R11_7 : Array Oper := regOps C11_23
def C11_24 : Code := cr C11_22
def C11_25 : Code := cl C11_24
def C11_26 : Code := cr C11_24
def C11_27 : Code := cr C11_21
def C11_28 : Code := cl C11_27
def C11_29 : Code := cl C11_28
def R11_9 : Array Oper := regOps C11_29
def C11_30 : Code := cr C11_27
def R11_8 : Array Oper := regOps C11_30
def C11_31 : Code := cr C11_16
def C11_32 : Code := cl C11_31
def R11_10 : Array Oper := regOps C11_32
def C11_33 : Code := cr C11_31
def C11_34 : Code := cl C11_33
def C11_35 : Code := cl C11_34
def R11_11 : Array Oper := regOps C11_35
def C11_36 : Code := cr C11_34
def C11_37 : Code := cl C11_36
def C11_38 : Code := cl C11_37
def R11_12 : Array Oper := regOps C11_38
def C11_39 : Code := cr C11_37
def C11_40 : Code := cr C11_36
def C11_41 : Code := cr C11_33
def C11_42 : Code := cl C11_41
def R11_13 : Array Oper := regOps C11_42
def C11_43 : Code := cr C11_41
theorem R11_0_N : dstsOk 72 R11_0 = true := by decide +kernel
theorem E11_1 : C11_1 = .region 0 R11_0 false := rfl
theorem R11_1_N : dstsOk 72 R11_1 = true := by decide +kernel
theorem E11_3 : C11_3 = .region 1 R11_1 false := rfl
theorem R11_2_N : dstsOk 72 R11_2 = true := by decide +kernel
theorem E11_6 : C11_6 = .region 2 R11_2 false := rfl
theorem R11_3_N : dstsOk 72 R11_3 = true := by decide +kernel
theorem E11_9 : C11_9 = .region 3 R11_3 false := rfl
theorem E11_10 : C11_10 = .ret := rfl
theorem E11_8 : C11_8 = .seq C11_9 C11_10 := rfl
theorem E11_11 : C11_11 = .skip := rfl
theorem E11_7 : C11_7 = .cond (.tmp 15) C11_8 C11_11 := rfl
theorem E11_5 : C11_5 = .seq C11_6 C11_7 := rfl
theorem R11_4_N : dstsOk 72 R11_4 = true := by decide +kernel
theorem E11_13 : C11_13 = .region 4 R11_4 false := rfl
theorem R11_5_N : dstsOk 72 R11_5 = true := by decide +kernel
theorem E11_15 : C11_15 = .region 5 R11_5 false := rfl
theorem R11_6_N : dstsOk 72 R11_6 = true := by decide +kernel
theorem E11_18 : C11_18 = .region 6 R11_6 false := rfl
theorem R11_7_N : dstsOk 72 R11_7 = true := by decide +kernel
theorem E11_23 : C11_23 = .region 7 R11_7 false := rfl
theorem E11_25 : C11_25 = .skip := rfl
theorem E11_26 : C11_26 = .exit 0 := rfl
theorem E11_24 : C11_24 = .cond (.tmp 47) C11_25 C11_26 := rfl
theorem E11_22 : C11_22 = .seq C11_23 C11_24 := rfl
theorem R11_9_N : dstsOk 72 R11_9 = true := by decide +kernel
theorem R11_9_O : linOk R11_9 [0, 1, 2, 4, 6, 8] [(3, [0, 1, 4, 6, 8], []), (5, [0, 1, 6, 8], []), (7, [0, 1, 8], []), (9, [0, 1], [10]), (11, [0, 1], []), (12, [], [13]), (14, [], [])] = true := by decide +kernel
theorem E11_29 : C11_29 = .region 9 R11_9 true := rfl
theorem E11_28 : C11_28 = .block 1 C11_29 := rfl
theorem R11_8_N : dstsOk 72 R11_8 = true := by decide +kernel
theorem E11_30 : C11_30 = .region 8 R11_8 false := rfl
theorem E11_27 : C11_27 = .seq C11_28 C11_30 := rfl
theorem E11_21 : C11_21 = .seq C11_22 C11_27 := rfl
theorem E11_20 : C11_20 = .loop C11_21 := rfl
theorem E11_19 : C11_19 = .block 0 C11_20 := rfl
theorem E11_17 : C11_17 = .seq C11_18 C11_19 := rfl
theorem R11_10_N : dstsOk 72 R11_10 = true := by decide +kernel
theorem E11_32 : C11_32 = .region 10 R11_10 false := rfl
theorem R11_11_N : dstsOk 72 R11_11 = true := by decide +kernel
theorem E11_35 : C11_35 = .region 11 R11_11 false := rfl
theorem R11_12_N : dstsOk 72 R11_12 = true := by decide +kernel
theorem E11_38 : C11_38 = .region 12 R11_12 false := rfl
theorem E11_39 : C11_39 = .ret := rfl
theorem E11_37 : C11_37 = .seq C11_38 C11_39 := rfl
theorem E11_40 : C11_40 = .skip := rfl
theorem E11_36 : C11_36 = .cond (.tmp 69) C11_37 C11_40 := rfl
theorem E11_34 : C11_34 = .seq C11_35 C11_36 := rfl
theorem R11_13_N : dstsOk 72 R11_13 = true := by decide +kernel
theorem E11_42 : C11_42 = .region 13 R11_13 false := rfl
theorem E11_43 : C11_43 = .ret := rfl
theorem E11_41 : C11_41 = .seq C11_42 C11_43 := rfl
theorem E11_33 : C11_33 = .seq C11_34 C11_41 := rfl
theorem E11_31 : C11_31 = .seq C11_32 C11_33 := rfl
theorem E11_16 : C11_16 = .seq C11_17 C11_31 := rfl
theorem E11_14 : C11_14 = .seq C11_15 C11_16 := rfl
theorem E11_12 : C11_12 = .seq C11_13 C11_14 := rfl
theorem E11_4 : C11_4 = .seq C11_5 C11_12 := rfl
theorem E11_2 : C11_2 = .seq C11_3 C11_4 := rfl
theorem E11_0 : C11_0 = .seq C11_1 C11_2 := rfl
def S11_2 (Q : (Int × Int × Int × Int × Int × Int × Int × Bool × Value × Value × Int) → AW → Prop) (E : List PanicEntry → AW → Prop) (nx1 : Value → Value → Value → Int → AW → Prop) (t_2 : Value) (r_6 : Value) (m_7 : Value) (n_8 : Int) (t_47 : Bool) (aw : AW) : Prop :=
  cnd t_47 (fldA m_7 8 fun p2 =>
  ldV aw p2 fun x10 =>
  CallP prog 36 [r_6] aw sh36 (fun r12 aw13 =>
  again1 aw13 p2 (x10) ∧ CallP prog 36 [r_6] aw13 sh36 (fun r14 aw15 =>
  again1 aw15 p2 (x10) ∧ CallP prog 36 [r_6] aw15 sh36 (fun r16 aw17 =>
  again1 aw17 p2 (x10) ∧ CallP prog 38 [r_6, .int .i64 4000] aw17 sh38 (fun r18 aw19 =>
  again1 aw19 p2 (x10) ∧ one r18 = true ∧ alcS aw19 [.int .u64 r12, .int .u64 r14, .int .u64 r16, r18] 40 4 1 fun p21 aw22 =>
  again1 aw22 p2 (x10) ∧ app aw22 40 4 48 x10 p21 fun v25 aw26 =>
  fldA m_7 8 fun p28 =>
  st aw26 p28 [v25] fun aw33 =>
  nx1 t_2 r_6 m_7 (IntKind.i64.wrap (n_8 - 1)) aw33) E) E) E) E) (CallP prog 38 [r_6, .int .i64 1048576] aw sh38 (fun r40 aw41 =>
  fldA m_7 9 fun p42 =>
  st aw41 p42 [r40] fun aw47 =>
  CallP prog 39 [r_6] aw47 sh39 (fun r54 aw55 =>
  cnd (!r54) (st aw55 t_2 [.int .u8 0, .int .i64 0, .int .i64 0, .int .u64 0, .int .u64 0, .int .u64 0, .int .u64 0, .bool false, (.slice none 0 0), (.slice none 0 0)] fun aw57 =>
  ptr t_2 fun b64 i65 => gI .u8 aw57 b64 i65 fun c67 => gI .i64 aw57 b64 (i65 + 1) fun c68 => gI .i64 aw57 b64 (i65 + 2) fun c69 => gI .u64 aw57 b64 (i65 + 3) fun c70 => gI .u64 aw57 b64 (i65 + 4) fun c71 => gI .u64 aw57 b64 (i65 + 5) fun c72 => gI .u64 aw57 b64 (i65 + 6) fun c73 => gB aw57 b64 (i65 + 7) fun c74 => gV aw57 b64 (i65 + 8) fun c75 => gV aw57 b64 (i65 + 9) fun c76 => Q (c67, c68, c69, c70, c71, c72, c73, c74, c75, c76, 3) aw57) (ptr m_7 fun b87 i88 =>
  gI .u8 aw55 b87 i88 fun c90 =>
  gI .i64 aw55 b87 (i88 + 1) fun c91 =>
  gI .i64 aw55 b87 (i88 + 2) fun c92 =>
  gI .u64 aw55 b87 (i88 + 3) fun c93 =>
  gI .u64 aw55 b87 (i88 + 4) fun c94 =>
  gI .u64 aw55 b87 (i88 + 5) fun c95 =>
  gI .u64 aw55 b87 (i88 + 6) fun c96 =>
  gB aw55 b87 (i88 + 7) fun c97 =>
  gV aw55 b87 (i88 + 8) fun c98 =>
  gV aw55 b87 (i88 + 9) fun c99 =>
  st aw55 t_2 [.int .u8 c90, .int .i64 c91, .int .i64 c92, .int .u64 c93, .int .u64 c94, .int .u64 c95, .int .u64 c96, .bool c97, c98, c99] fun aw110 =>
  ptr t_2 fun b117 i118 => gI .u8 aw110 b117 i118 fun c120 => gI .i64 aw110 b117 (i118 + 1) fun c121 => gI .i64 aw110 b117 (i118 + 2) fun c122 => gI .u64 aw110 b117 (i118 + 3) fun c123 => gI .u64 aw110 b117 (i118 + 4) fun c124 => gI .u64 aw110 b117 (i118 + 5) fun c125 => gI .u64 aw110 b117 (i118 + 6) fun c126 => gB aw110 b117 (i118 + 7) fun c127 => gV aw110 b117 (i118 + 8) fun c128 => gV aw110 b117 (i118 + 9) fun c129 => Q (c120, c121, c122, c123, c124, c125, c126, c127, c128, c129, 0) aw110)) E) E)
def S11_1s (Q : (Int × Int × Int × Int × Int × Int × Int × Bool × Value × Value × Int) → AW → Prop) (E : List PanicEntry → AW → Prop)  (nx1 : Value → Value → Value → Int → AW → Prop) (t_2 : Value) (r_6 : Value) (m_7 : Value) (n_8 : Int) (aw : AW) : Prop :=
  cnd (decide (0 < n_8)) (CallP prog 37 [r_6] aw sh37 (fun r141 aw142 =>
  S11_2 Q E nx1 t_2 r_6 m_7 n_8 (!r141) aw142) E) (S11_2 Q E nx1 t_2 r_6 m_7 n_8 false aw)
def S11_1 (Q : (Int × Int × Int × Int × Int × Int × Int × Bool × Value × Value × Int) → AW → Prop) (E : List PanicEntry → AW → Prop)  : Nat → Value → Value → Value → Int → AW → Prop
  | 0 => fun _ _ _ _ _ => False
  | n + 1 => S11_1s Q E  (S11_1 Q E  n)
def S11_0 (Q : (Int × Int × Int × Int × Int × Int × Int × Bool × Value × Value × Int) → AW → Prop) (E : List PanicEntry → AW → Prop)  (b_0 : Value) (aw : AW) : Prop :=
  alc aw [.int .u8 0, .int .i64 0, .int .i64 0, .int .u64 0, .int .u64 0, .int .u64 0, .int .u64 0, .bool false, (.slice none 0 0), (.slice none 0 0)] 43 0 fun p143 aw144 =>
  CallP prog 32 [b_0] aw144 sh32 (fun r147 aw148 =>
  cnd (!decide (r147.2 = 0)) (st aw148 p143 [.int .u8 0, .int .i64 0, .int .i64 0, .int .u64 0, .int .u64 0, .int .u64 0, .int .u64 0, .bool false, (.slice none 0 0), (.slice none 0 0)] fun aw150 =>
  ptr p143 fun b157 i158 => gI .u8 aw150 b157 i158 fun c160 => gI .i64 aw150 b157 (i158 + 1) fun c161 => gI .i64 aw150 b157 (i158 + 2) fun c162 => gI .u64 aw150 b157 (i158 + 3) fun c163 => gI .u64 aw150 b157 (i158 + 4) fun c164 => gI .u64 aw150 b157 (i158 + 5) fun c165 => gI .u64 aw150 b157 (i158 + 6) fun c166 => gB aw150 b157 (i158 + 7) fun c167 => gV aw150 b157 (i158 + 8) fun c168 => gV aw150 b157 (i158 + 9) fun c169 => Q (c160, c161, c162, c163, c164, c165, c166, c167, c168, c169, r147.2) aw150) (CallP prog 33 [r147.1] aw148 sh33 (fun r180 aw181 =>
  CallP prog 34 [r180, .int .i64 255] aw181 sh34 (fun r182 aw183 =>
  CallP prog 35 [r180] aw183 sh35 (fun r184 aw185 =>
  CallP prog 35 [r180] aw185 sh35 (fun r186 aw187 =>
  CallP prog 36 [r180] aw187 sh36 (fun r188 aw189 =>
  CallP prog 36 [r180] aw189 sh36 (fun r190 aw191 =>
  CallP prog 36 [r180] aw191 sh36 (fun r192 aw193 =>
  CallP prog 36 [r180] aw193 sh36 (fun r194 aw195 =>
  CallP prog 34 [r180, .int .i64 1] aw195 sh34 (fun r196 aw197 =>
  alc aw197 [.int .u8 0, .int .i64 0, .int .i64 0, .int .u64 0, .int .u64 0, .int .u64 0, .int .u64 0, .bool false, (.slice none 0 0), (.slice none 0 0)] 43 0 fun p198 aw199 =>
  st aw199 p198 [.int .u8 (IntKind.u8.wrap r182), .int .i64 r184, .int .i64 r186, .int .u64 r188, .int .u64 r190, .int .u64 r192, .int .u64 r194, .bool (decide (r196 = 1)), (.slice none 0 0), (.slice none 0 0)] fun aw202 =>
  CallP prog 34 [r180, .int .i64 65536] aw202 sh34 (fun r209 aw210 =>
  ∃ n, S11_1 Q E  n p143 r180 p198 r209 aw210) E) E) E) E) E) E) E) E) E) E)) E
theorem S11_2_ok (Q : (Int × Int × Int × Int × Int × Int × Int × Bool × Value × Value × Int) → AW → Prop) (E : List PanicEntry → AW → Prop) (nx1 : Value → Value → Value → Int → AW → Prop) (L1 : ∀ (ρ : Env) (t_2 : Value) (r_6 : Value) (m_7 : Value) (n_8 : Int) (aw : AW) (h2 : ρ 2 = t_2) (h6 : ρ 6 = r_6) (h7 : ρ 7 = m_7) (h8 : ρ 8 = .int .i64 n_8), nx1 t_2 r_6 m_7 n_8 aw → AGo prog 72 [.code C11_21, .inLoop C11_21, .inBlock 0, .code C11_31] ρ [] aw (RR prog f11 72 sh11 Q E)) (ρ : Env) (t_2 : Value) (r_6 : Value) (m_7 : Value) (n_8 : Int) (t_47 : Bool) (aw : AW) (h2 : ρ 2 = t_2) (h6 : ρ 6 = r_6) (h7 : ρ 7 = m_7) (h8 : ρ 8 = .int .i64 n_8) (h47 : ρ 47 = .bool t_47) (H : S11_2 Q E nx1 t_2 r_6 m_7 n_8 t_47 aw) :
    AGo prog 72 [.code C11_24, .code C11_27, .inLoop C11_21, .inBlock 0, .code C11_31] ρ [] aw (RR prog f11 72 sh11 Q E) := by
  unfold S11_2 at H
  refine ago_condE  E11_24 rfl h47 (fun hb1 => ?_) (fun hb1 => ?_)
  · replace H := cnd_t H hb1
    refine ago_skipE E11_25 ?_
    refine ago_seqE E11_27 ?_
    refine ago_blockE E11_28 ?_
    obtain ⟨b3, i4, p2, hp5, hv6, H⟩ := H
    obtain ⟨b7, i8, x10, hp9, hg11, H⟩ := H
    refine ago_drawH (p := [0, 1, 2, 4, 6, 8]) (tl := [(3, [0, 1, 4, 6, 8], []), (5, [0, 1, 6, 8], []), (7, [0, 1, 8], []), (9, [0, 1], [10]), (11, [0, 1], []), (12, [], [13]), (14, [], [])]) (hv := [(0, p2), (1, x10), (2, r_6), (4, r_6), (6, r_6), (8, r_6)]) E11_29 mixed R11_9_N R11_9_O rfl (pv_cons rfl (pv_cons rfl (pv_cons rfl (pv_cons rfl (pv_cons rfl (pv_cons rfl (pv_nil _)))))))
      (ffc (d := 50) (v := p2) (hd_v rfl fun ρ hρ => ⟨rfl, ov_fldA rfl rfl underlying43 rfl sz26 (by decide) ((hρ 7 (lmem rfl)).trans h7) hp5 rfl hv6⟩) rfl rfl
      (ffc (d := 51) (v := x10) (hd_v rfl fun ρ hρ => ⟨rfl, ov_ldV rfl underlying26 rfl rfl ((hρ 50 (lmem rfl)).trans rfl) hp9 hg11⟩) rfl rfl
      (ffc (d := 52) (v := r_6) (hd_v rfl fun ρ hρ => ⟨rfl, opv_move rfl rfl ((hρ 6 (lmem rfl)).trans h6)⟩) rfl rfl
      (ffc (d := 54) (v := r_6) (hd_v rfl fun ρ hρ => ⟨rfl, opv_move rfl rfl ((hρ 6 (lmem rfl)).trans h6)⟩) rfl rfl
      (ffc (d := 56) (v := r_6) (hd_v rfl fun ρ hρ => ⟨rfl, opv_move rfl rfl ((hρ 6 (lmem rfl)).trans h6)⟩) rfl rfl
      (ffc (d := 58) (v := r_6) (hd_v rfl fun ρ hρ => ⟨rfl, opv_move rfl rfl ((hρ 6 (lmem rfl)).trans h6)⟩) rfl rfl
      ffn)))))) ?_
    refine lt_call (dt := some 53) rfl rfl (fun ρ hρ => ⟨rfl, opc_of rfl rfl is36 (ma_cons ((hρ 52 (lmem rfl)).trans rfl) rfl)⟩) H (fun _ _ h _ => ⟨rfl, h⟩) fun r12 aw13 H => ?_
    obtain ⟨hg11, H⟩ := H
    replace hg11 := hg11 _ _ hp9
    refine lt_next (l := [0, 1, 4, 6, 8]) (hv := []) rfl rfl (pv_nil _)
      (ffc (d := 50) (v := p2) (hd_v rfl fun ρ hρ => ⟨rfl, ov_fldA rfl rfl underlying43 rfl sz26 (by decide) ((hρ 7 (lmem rfl)).trans h7) hp5 rfl hv6⟩) rfl rfl
      (ffc (d := 51) (v := x10) (hd_v rfl fun ρ hρ => ⟨rfl, ov_ldV rfl underlying26 rfl rfl ((hρ 50 (lmem rfl)).trans rfl) hp9 hg11⟩) rfl rfl
      (ffc (d := 54) (v := r_6) (hd_v rfl fun ρ hρ => ⟨rfl, opv_move rfl rfl ((hρ 6 (lmem rfl)).trans h6)⟩) rfl rfl
      (ffc (d := 56) (v := r_6) (hd_v rfl fun ρ hρ => ⟨rfl, opv_move rfl rfl ((hρ 6 (lmem rfl)).trans h6)⟩) rfl rfl
      (ffc (d := 58) (v := r_6) (hd_v rfl fun ρ hρ => ⟨rfl, opv_move rfl rfl ((hρ 6 (lmem rfl)).trans h6)⟩) rfl rfl
      ffn))))) ?_
    refine lt_call (dt := some 55) rfl rfl (fun ρ hρ => ⟨rfl, opc_of rfl rfl is36 (ma_cons ((hρ 54 (lmem rfl)).trans rfl) rfl)⟩) H (fun _ _ h _ => ⟨rfl, h⟩) fun r14 aw15 H => ?_
    obtain ⟨hg11, H⟩ := H
    replace hg11 := hg11 _ _ hp9
    refine lt_next (l := [0, 1, 6, 8]) (hv := []) rfl rfl (pv_nil _)
      (ffc (d := 50) (v := p2) (hd_v rfl fun ρ hρ => ⟨rfl, ov_fldA rfl rfl underlying43 rfl sz26 (by decide) ((hρ 7 (lmem rfl)).trans h7) hp5 rfl hv6⟩) rfl rfl
      (ffc (d := 51) (v := x10) (hd_v rfl fun ρ hρ => ⟨rfl, ov_ldV rfl underlying26 rfl rfl ((hρ 50 (lmem rfl)).trans rfl) hp9 hg11⟩) rfl rfl
      (ffc (d := 56) (v := r_6) (hd_v rfl fun ρ hρ => ⟨rfl, opv_move rfl rfl ((hρ 6 (lmem rfl)).trans h6)⟩) rfl rfl
      (ffc (d := 58) (v := r_6) (hd_v rfl fun ρ hρ => ⟨rfl, opv_move rfl rfl ((hρ 6 (lmem rfl)).trans h6)⟩) rfl rfl
      ffn)))) ?_
    refine lt_call (dt := some 57) rfl rfl (fun ρ hρ => ⟨rfl, opc_of rfl rfl is36 (ma_cons ((hρ 56 (lmem rfl)).trans rfl) rfl)⟩) H (fun _ _ h _ => ⟨rfl, h⟩) fun r16 aw17 H => ?_
    obtain ⟨hg11, H⟩ := H
    replace hg11 := hg11 _ _ hp9
    refine lt_next (l := [0, 1, 8]) (hv := []) rfl rfl (pv_nil _)
      (ffc (d := 50) (v := p2) (hd_v rfl fun ρ hρ => ⟨rfl, ov_fldA rfl rfl underlying43 rfl sz26 (by decide) ((hρ 7 (lmem rfl)).trans h7) hp5 rfl hv6⟩) rfl rfl
      (ffc (d := 51) (v := x10) (hd_v rfl fun ρ hρ => ⟨rfl, ov_ldV rfl underlying26 rfl rfl ((hρ 50 (lmem rfl)).trans rfl) hp9 hg11⟩) rfl rfl
      (ffc (d := 58) (v := r_6) (hd_v rfl fun ρ hρ => ⟨rfl, opv_move rfl rfl ((hρ 6 (lmem rfl)).trans h6)⟩) rfl rfl
      ffn))) ?_
    refine lt_call (dt := some 59) rfl rfl (fun ρ hρ => ⟨rfl, opc_of rfl rfl is38 (ma_cons ((hρ 58 (lmem rfl)).trans rfl) (ma_cons rfl rfl))⟩) H (fun _ _ h _ => ⟨rfl, h⟩) fun r18 aw19 H => ?_
    obtain ⟨hg11, H⟩ := H
    replace hg11 := hg11 _ _ hp9
    obtain ⟨h120, H⟩ := H
    refine lt_next (l := [0, 1, 10]) (hv := [(10, Value.agg #[.int .u64 r12, .int .u64 r14, .int .u64 r16, r18])]) rfl rfl (pv_cons rfl (pv_nil _))
      (ffc (d := 50) (v := p2) (hd_v rfl fun ρ hρ => ⟨rfl, ov_fldA rfl rfl underlying43 rfl sz26 (by decide) ((hρ 7 (lmem rfl)).trans h7) hp5 rfl hv6⟩) rfl rfl
      (ffc (d := 51) (v := x10) (hd_v rfl fun ρ hρ => ⟨rfl, ov_ldV rfl underlying26 rfl rfl ((hρ 50 (lmem rfl)).trans rfl) hp9 hg11⟩) rfl rfl
      (ffc (d := 60) (v := .agg #[.int .u64 r12, .int .u64 r14, .int .u64 r16, r18]) (hd_v rfl fun ρ hρ => ⟨rfl, ov_bld (r := [.int .u64 r12, .int .u64 r14, .int .u64 r16, r18]) rfl rfl bo40 (mp_cons ((hρ 53 (lmem rfl)).trans rfl) (mp_cons ((hρ 55 (lmem rfl)).trans rfl) (mp_cons ((hρ 57 (lmem rfl)).trans rfl) (mp_cons ((hρ 59 (lmem rfl)).trans rfl) rfl)))) (fillP rfl rfl rfl rfl (fillP rfl rfl rfl rfl (fillP rfl rfl rfl rfl (fillP (cells_one h120) rfl rfl rfl (fillN rfl)))))⟩) rfl rfl
      ffn))) ?_
    obtain ⟨p21, aw22, hp23, ha24, H⟩ := H
    refine lt_val (dt := some 61) (v := p21) rfl rfl (fun ρ hρ => ⟨rfl, ov_bsA (r := [.int .u64 r12, .int .u64 r14, .int .u64 r16, r18]) (vs := [.agg #[.int .u64 r12, .int .u64 r14, .int .u64 r16, r18]]) rfl rfl underlying26 sz40 z40 rfl rfl rfl rfl rfl (mp_cons ((hρ 60 (lmem rfl)).trans rfl) rfl) (.cons (v := .agg #[.int .u64 r12, .int .u64 r14, .int .u64 r16, r18]) (xs := [.int .u64 r12, .int .u64 r14, .int .u64 r16, r18]) (r := []) rfl rfl .nil) hp23 ha24⟩) ?_
    obtain ⟨hg11, H⟩ := H
    replace hg11 := hg11 _ _ hp9
    refine lt_next (l := [0, 1]) (hv := []) rfl rfl (pv_nil _)
      (ffc (d := 50) (v := p2) (hd_v rfl fun ρ hρ => ⟨rfl, ov_fldA rfl rfl underlying43 rfl sz26 (by decide) ((hρ 7 (lmem rfl)).trans h7) hp5 rfl hv6⟩) rfl rfl
      (ffc (d := 51) (v := x10) (hd_v rfl fun ρ hρ => ⟨rfl, ov_ldV rfl underlying26 rfl rfl ((hρ 50 (lmem rfl)).trans rfl) hp9 hg11⟩) rfl rfl
      ffn)) ?_
    obtain ⟨v25, aw26, hq27, H⟩ := H
    refine lt_val (dt := some 62) (v := v25) rfl rfl (fun ρ hρ => ⟨rfl, ov_app rfl rfl rfl rfl underlying26 sz40 by40 underlying26 rfl z40 rfl (by decide) (by decide) ((hρ 51 (lmem rfl)).trans rfl) ((hρ 61 (lmem rfl)).trans rfl) hq27⟩) ?_
    obtain ⟨b29, i30, p28, hp31, hv32, H⟩ := H
    refine lt_next (l := [13]) (hv := [(13, p28)]) rfl rfl (pv_cons rfl (pv_nil _))
      (ffc (d := 63) (v := p28) (hd_v rfl fun ρ hρ => ⟨rfl, ov_fldA rfl rfl underlying43 rfl sz26 (by decide) ((hρ 7 (lmem rfl)).trans h7) hp31 rfl hv32⟩) rfl rfl
      ffn) ?_
    obtain ⟨b34, i35, aw33, hp36, hw37, ho38, ha39, H⟩ := H
    refine lt_val (dt := none) (v := undef) rfl rfl (fun ρ hρ => ⟨rfl, ov_st rfl rfl rfl ((hρ 63 (lmem rfl)).trans rfl) ((hρ 62 (lmem rfl)).trans rfl) (cells_all ho38) sz26 hp36 hw37 ho38 ha39⟩) ?_
    refine lt_next (l := []) (hv := []) rfl rfl (pv_nil _)
      ffn ?_
    refine lt_end ?_
    refine ago_inBlock ?_
    refine ago_cut (fun ρ => ρ 2 = t_2 ∧ ρ 6 = r_6 ∧ ρ 7 = m_7 ∧ ρ 8 = .int .i64 n_8 ∧ True) ⟨h2, h6, h7, h8, trivial⟩ (fun ρ ⟨h2, h6, h7, h8, _⟩ => ?_)
    refine ago_regE E11_30 (l := [0, 1, 2]) rfl ?_
    refine lk (dt := some 48) R11_8_N rfl rfl rfl (opv_move rfl rfl h8) ?_
    refine lk (dt := some 49) R11_8_N rfl rfl rfl (opv_sub rfl rfl rfl rfl rfl) ?_
    refine lk (dt := some 8) R11_8_N rfl rfl rfl (opv_assign rfl rfl rfl) ?_
    refine aops_nil ?_
    refine ago_inLoop ?_
    exact L1 _ t_2 r_6 m_7 (IntKind.i64.wrap (n_8 - 1)) aw33 h2 h6 h7 rfl H
  · replace H := cnd_f H hb1
    refine ago_exitE E11_26 rfl ?_
    refine ago_seqE E11_31 ?_
    refine ago_regE E11_32 (l := [0, 1, 2, 3]) rfl ?_
    refine lk (dt := some 64) R11_10_N rfl rfl rfl (opv_move rfl rfl h6) ?_
    refine lk_call (dt := some 65) R11_10_N rfl rfl rfl (opc_of rfl rfl is38 (ma_cons rfl (ma_cons rfl rfl))) H (fun _ _ h => ⟨rfl, h⟩) fun r40 aw41 H => ?_
    obtain ⟨b43, i44, p42, hp45, hv46, H⟩ := H
    refine lk (dt := some 66) R11_10_N rfl rfl rfl (ov_fldA rfl rfl underlying43 rfl sz25 (by decide) h7 hp45 rfl hv46) ?_
    obtain ⟨b48, i49, aw47, hp50, hw51, ho52, ha53, H⟩ := H
    refine lk (dt := none) R11_10_N rfl rfl rfl (ov_st rfl rfl rfl rfl rfl (cells_all ho52) sz25 hp50 hw51 ho52 ha53) ?_
    refine aops_nil ?_
    refine ago_seqE E11_33 ?_
    refine ago_seqE E11_34 ?_
    refine ago_regE E11_35 (l := [0, 1, 2]) rfl ?_
    refine lk (dt := some 67) R11_11_N rfl rfl rfl (opv_move rfl rfl h6) ?_
    refine lk_call (dt := some 68) R11_11_N rfl rfl rfl (opc_of rfl rfl is39 (ma_cons rfl rfl)) H (fun _ _ h => ⟨rfl, h⟩) fun r54 aw55 H => ?_
    refine lk (dt := some 69) R11_11_N rfl rfl rfl (opv_not rfl rfl rfl) ?_
    refine aops_nil ?_
    refine ago_condE  E11_36 rfl rfl (fun hb56 => ?_) (fun hb56 => ?_)
    · replace H := cnd_t H hb56
      refine ago_seqE E11_37 ?_
      refine ago_regE E11_38 (l := [0, 1, 2]) rfl ?_
      refine lk (dt := some 70) R11_12_N rfl rfl rfl (ov_bld (r := [.int .u8 0, .int .i64 0, .int .i64 0, .int .u64 0, .int .u64 0, .int .u64 0, .int .u64 0, .bool false, (.slice none 0 0), (.slice none 0 0)]) rfl rfl bo43 rfl (fillN rfl)) ?_
      obtain ⟨b58, i59, aw57, hp60, hw61, ho62, ha63, H⟩ := H
      refine lk (dt := none) R11_12_N rfl rfl rfl (ov_st rfl rfl rfl h2 rfl rfl sz43 hp60 hw61 ho62 ha63) ?_
      refine lk (dt := some 3) R11_12_N rfl rfl rfl (opv_assign rfl rfl rfl) ?_
      refine aops_nil ?_
      obtain ⟨b64, i65, hp66, c67, hg77, c68, hg78, c69, hg79, c70, hg80, c71, hg81, c72, hg82, c73, hg83, c74, hg84, c75, hg85, c76, hg86, H⟩ := H
      exact ago_retE E11_39 (r := (c67, c68, c69, c70, c71, c72, c73, c74, c75, c76, 3)) (ares_2 rfl (oneN h2 hp66 underlying43 rfl sz43 (getN_cons hg77 (getN_cons hg78 (getN_cons hg79 (getN_cons hg80 (getN_cons hg81 (getN_cons hg82 (getN_cons hg83 (getN_cons hg84 (getN_cons hg85 (getN_cons hg86 getN_nil))))))))))) (oneT rfl)) rfl H
    · replace H := cnd_f H hb56
      refine ago_skipE E11_40 ?_
      refine ago_seqE E11_41 ?_
      refine ago_regE E11_42 (l := [0, 1, 2]) rfl ?_
      obtain ⟨b87, i88, hp89, c90, hg100, c91, hg101, c92, hg102, c93, hg103, c94, hg104, c95, hg105, c96, hg106, c97, hg107, c98, hg108, c99, hg109, H⟩ := H
      refine lk (dt := some 71) R11_13_N rfl rfl rfl (ov_ldN rfl underlying43 rfl sz43 rfl h7 hp89 (getN_cons hg100 (getN_cons hg101 (getN_cons hg102 (getN_cons hg103 (getN_cons hg104 (getN_cons hg105 (getN_cons hg106 (getN_cons hg107 (getN_cons hg108 (getN_cons hg109 getN_nil))))))))))) ?_
      obtain ⟨b111, i112, aw110, hp113, hw114, ho115, ha116, H⟩ := H
      refine lk (dt := none) R11_13_N rfl rfl rfl (ov_st rfl rfl rfl h2 rfl rfl sz43 hp113 hw114 ho115 ha116) ?_
      refine lk (dt := some 3) R11_13_N rfl rfl rfl (opv_assign rfl rfl rfl) ?_
      refine aops_nil ?_
      obtain ⟨b117, i118, hp119, c120, hg130, c121, hg131, c122, hg132, c123, hg133, c124, hg134, c125, hg135, c126, hg136, c127, hg137, c128, hg138, c129, hg139, H⟩ := H
      exact ago_retE E11_43 (r := (c120, c121, c122, c123, c124, c125, c126, c127, c128, c129, 0)) (ares_2 rfl (oneN h2 hp119 underlying43 rfl sz43 (getN_cons hg130 (getN_cons hg131 (getN_cons hg132 (getN_cons hg133 (getN_cons hg134 (getN_cons hg135 (getN_cons hg136 (getN_cons hg137 (getN_cons hg138 (getN_cons hg139 getN_nil))))))))))) (oneT rfl)) rfl H
theorem S11_1s_ok (Q : (Int × Int × Int × Int × Int × Int × Int × Bool × Value × Value × Int) → AW → Prop) (E : List PanicEntry → AW → Prop)  (nx1 : Value → Value → Value → Int → AW → Prop) (L1 : ∀ (ρ : Env) (t_2 : Value) (r_6 : Value) (m_7 : Value) (n_8 : Int) (aw : AW) (h2 : ρ 2 = t_2) (h6 : ρ 6 = r_6) (h7 : ρ 7 = m_7) (h8 : ρ 8 = .int .i64 n_8), nx1 t_2 r_6 m_7 n_8 aw → AGo prog 72 [.code C11_21, .inLoop C11_21, .inBlock 0, .code C11_31] ρ [] aw (RR prog f11 72 sh11 Q E)) (ρ : Env) (t_2 : Value) (r_6 : Value) (m_7 : Value) (n_8 : Int) (aw : AW) (h2 : ρ 2 = t_2) (h6 : ρ 6 = r_6) (h7 : ρ 7 = m_7) (h8 : ρ 8 = .int .i64 n_8) (H : S11_1s Q E  nx1 t_2 r_6 m_7 n_8 aw) :
    AGo prog 72 [.code C11_21, .inLoop C11_21, .inBlock 0, .code C11_31] ρ [] aw (RR prog f11 72 sh11 Q E) := by
  unfold S11_1s at H
  refine ago_seqE E11_21 ?_
  refine ago_seqE E11_22 ?_
  refine ago_regE E11_23 (l := [0, 1, 2, 3, 4, 5, 6]) rfl ?_
  refine lk (dt := some 41) R11_7_N rfl rfl rfl (opv_move rfl rfl h8) ?_
  refine lk (dt := some 42) R11_7_N rfl rfl rfl (opv_gt rfl rfl rfl rfl rfl) ?_
  refine lk (dt := some 43) R11_7_N rfl rfl rfl (opv_move rfl rfl rfl) ?_
  rcases Bool.eq_false_or_eq_true (decide (0 < n_8)) with hb140 | hb140
  · replace H := cnd_t H hb140
    refine lk (dt := some 44) R11_7_N rfl rfl ⟨_, rfl, .inl ⟨_, rfl, gq hb140 rfl⟩⟩ (opv_move rfl rfl h6) ?_
    refine lk_call (dt := some 45) R11_7_N rfl rfl ⟨_, rfl, .inl ⟨_, rfl, gq hb140 rfl⟩⟩ (opc_of rfl rfl is37 (ma_cons rfl rfl)) H (fun _ _ h => ⟨rfl, h⟩) fun r141 aw142 H => ?_
    refine lk (dt := some 46) R11_7_N rfl rfl ⟨_, rfl, .inl ⟨_, rfl, gq hb140 rfl⟩⟩ (opv_not rfl rfl rfl) ?_
    refine lk (dt := some 47) R11_7_N rfl rfl rfl (ov_pickT rfl rfl rfl rfl rfl hb140 rfl) ?_
    refine aops_nil ?_
    exact S11_2_ok Q E nx1 L1 _ t_2 r_6 m_7 n_8 (!r141) aw142 h2 h6 h7 h8 rfl H
  · replace H := cnd_f H hb140
    refine lk_skip (dt := some 44) R11_7_N rfl rfl ⟨_, rfl, .inl ⟨_, rfl, gq hb140 rfl⟩⟩ ?_
    refine lk_skip (dt := some 45) R11_7_N rfl rfl ⟨_, rfl, .inl ⟨_, rfl, gq hb140 rfl⟩⟩ ?_
    refine lk_skip (dt := some 46) R11_7_N rfl rfl ⟨_, rfl, .inl ⟨_, rfl, gq hb140 rfl⟩⟩ ?_
    refine lk (dt := some 47) R11_7_N rfl rfl rfl (ov_pickF rfl rfl rfl rfl rfl hb140 rfl) ?_
    refine aops_nil ?_
    exact S11_2_ok Q E nx1 L1 _ t_2 r_6 m_7 n_8 false aw h2 h6 h7 h8 rfl H
theorem S11_1_ok (Q : (Int × Int × Int × Int × Int × Int × Int × Bool × Value × Value × Int) → AW → Prop) (E : List PanicEntry → AW → Prop)  : ∀ (n : Nat) (ρ : Env) (t_2 : Value) (r_6 : Value) (m_7 : Value) (n_8 : Int) (aw : AW) (h2 : ρ 2 = t_2) (h6 : ρ 6 = r_6) (h7 : ρ 7 = m_7) (h8 : ρ 8 = .int .i64 n_8), S11_1 Q E  n t_2 r_6 m_7 n_8 aw →
    AGo prog 72 [.code C11_21, .inLoop C11_21, .inBlock 0, .code C11_31] ρ [] aw (RR prog f11 72 sh11 Q E)
  | 0, _, _, _, _, _, _, _, _, _, _ => fun H => H.elim
  | n + 1, ρ, t_2, r_6, m_7, n_8, aw, h2, h6, h7, h8 => fun H => S11_1s_ok Q E  _ (S11_1_ok Q E  n) ρ t_2 r_6 m_7 n_8 aw h2 h6 h7 h8 H
theorem S11_0_ok (Q : (Int × Int × Int × Int × Int × Int × Int × Bool × Value × Value × Int) → AW → Prop) (E : List PanicEntry → AW → Prop)  (ρ : Env) (b_0 : Value) (aw : AW) (h0 : ρ 0 = b_0) (H : S11_0 Q E  b_0 aw) :
    AGo prog 72 [.code C11_0] ρ [] aw (RR prog f11 72 sh11 Q E) := by
  unfold S11_0 at H
  refine ago_seqE E11_0 ?_
  refine ago_regE E11_1 (l := [0, 1]) rfl ?_
  obtain ⟨p143, aw144, hp145, ha146, H⟩ := H
  refine lk (dt := some 2) R11_0_N rfl rfl rfl (ov_alloc rfl z43 rfl rfl hp145 ha146) ?_
  refine lk (dt := some 3) R11_0_N rfl rfl rfl (opv_assign rfl rfl rfl) ?_
  refine aops_nil ?_
  refine ago_seqE E11_2 ?_
  refine ago_regE E11_3 (l := [0, 1, 2, 3, 4, 5, 6]) rfl ?_
  refine lk (dt := some 10) R11_1_N rfl rfl rfl (opv_move rfl rfl h0) ?_
  refine lk_call (dt := some 11) R11_1_N rfl rfl rfl (opc_of rfl rfl is32 (ma_cons rfl rfl)) H (fun _ _ h => ⟨rfl, h⟩) fun r147 aw148 H => ?_
  refine lk (dt := some 9) R11_1_N rfl rfl rfl (opv_move rfl rfl rfl) ?_
  refine lk (dt := some 12) R11_1_N rfl rfl rfl (opv_extract rfl rfl rfl rfl) ?_
  refine lk (dt := some 13) R11_1_N rfl rfl rfl (opv_extract rfl rfl rfl rfl) ?_
  refine lk (dt := some 4) R11_1_N rfl rfl rfl (opv_assign rfl rfl rfl) ?_
  refine lk (dt := some 5) R11_1_N rfl rfl rfl (opv_assign rfl rfl rfl) ?_
  refine aops_nil ?_
  refine ago_seqE E11_4 ?_
  refine ago_seqE E11_5 ?_
  refine ago_regE E11_6 (l := [0, 1]) rfl ?_
  refine lk (dt := some 14) R11_2_N rfl rfl rfl (opv_move rfl rfl rfl) ?_
  refine lk (dt := some 15) R11_2_N rfl rfl rfl (opv_neI rfl rfl rfl rfl rfl) ?_
  refine aops_nil ?_
  refine ago_condE  E11_7 rfl rfl (fun hb149 => ?_) (fun hb149 => ?_)
  · replace H := cnd_t H hb149
    refine ago_seqE E11_8 ?_
    refine ago_regE E11_9 (l := [0, 1, 2, 3]) rfl ?_
    refine lk (dt := some 16) R11_3_N rfl rfl rfl (ov_bld (r := [.int .u8 0, .int .i64 0, .int .i64 0, .int .u64 0, .int .u64 0, .int .u64 0, .int .u64 0, .bool false, (.slice none 0 0), (.slice none 0 0)]) rfl rfl bo43 rfl (fillN rfl)) ?_
    refine lk (dt := some 17) R11_3_N rfl rfl rfl (opv_move rfl rfl rfl) ?_
    obtain ⟨b151, i152, aw150, hp153, hw154, ho155, ha156, H⟩ := H
    refine lk (dt := none) R11_3_N rfl rfl rfl (ov_st rfl rfl rfl rfl rfl rfl sz43 hp153 hw154 ho155 ha156) ?_
    refine lk (dt := some 3) R11_3_N rfl rfl rfl (opv_assign rfl rfl rfl) ?_
    refine aops_nil ?_
    obtain ⟨b157, i158, hp159, c160, hg170, c161, hg171, c162, hg172, c163, hg173, c164, hg174, c165, hg175, c166, hg176, c167, hg177, c168, hg178, c169, hg179, H⟩ := H
    exact ago_retE E11_10 (r := (c160, c161, c162, c163, c164, c165, c166, c167, c168, c169, r147.2)) (ares_2 rfl (oneN rfl hp159 underlying43 rfl sz43 (getN_cons hg170 (getN_cons hg171 (getN_cons hg172 (getN_cons hg173 (getN_cons hg174 (getN_cons hg175 (getN_cons hg176 (getN_cons hg177 (getN_cons hg178 (getN_cons hg179 getN_nil))))))))))) (oneT rfl)) rfl H
  · replace H := cnd_f H hb149
    refine ago_skipE E11_11 ?_
    refine ago_seqE E11_12 ?_
    refine ago_regE E11_13 (l := [0, 1, 2]) rfl ?_
    refine lk (dt := some 18) R11_4_N rfl rfl rfl (opv_move rfl rfl rfl) ?_
    refine lk_call (dt := some 19) R11_4_N rfl rfl rfl (opc_of rfl rfl is33 (ma_cons rfl rfl)) H (fun _ _ h => ⟨rfl, h⟩) fun r180 aw181 H => ?_
    refine lk (dt := some 6) R11_4_N rfl rfl rfl (opv_assign rfl rfl rfl) ?_
    refine aops_nil ?_
    refine ago_seqE E11_14 ?_
    refine ago_cut (fun ρ => ρ 2 = p143 ∧ ρ 6 = r180 ∧ True) ⟨rfl, rfl, trivial⟩ (fun ρ ⟨h2, h6, _⟩ => ?_)
    refine ago_regE E11_15 (l := [0, 1, 2, 3, 4, 5, 6, 7, 8, 9, 10, 11, 12, 13, 14, 15, 16, 17, 18, 19, 20]) rfl ?_
    refine lk (dt := some 20) R11_5_N rfl rfl rfl (opv_move rfl rfl h6) ?_
    refine lk_call (dt := some 21) R11_5_N rfl rfl rfl (opc_of rfl rfl is34 (ma_cons rfl (ma_cons rfl rfl))) H (fun _ _ h => ⟨rfl, h⟩) fun r182 aw183 H => ?_
    refine lk (dt := some 22) R11_5_N rfl rfl rfl (opv_conv rfl rfl underlying3 underlying5 rfl) ?_
    refine lk (dt := some 23) R11_5_N rfl rfl rfl (opv_move rfl rfl h6) ?_
    refine lk_call (dt := some 24) R11_5_N rfl rfl rfl (opc_of rfl rfl is35 (ma_cons rfl rfl)) H (fun _ _ h => ⟨rfl, h⟩) fun r184 aw185 H => ?_
    refine lk (dt := some 25) R11_5_N rfl rfl rfl (opv_move rfl rfl h6) ?_
    refine lk_call (dt := some 26) R11_5_N rfl rfl rfl (opc_of rfl rfl is35 (ma_cons rfl rfl)) H (fun _ _ h => ⟨rfl, h⟩) fun r186 aw187 H => ?_
    refine lk (dt := some 27) R11_5_N rfl rfl rfl (opv_move rfl rfl h6) ?_
    refine lk_call (dt := some 28) R11_5_N rfl rfl rfl (opc_of rfl rfl is36 (ma_cons rfl rfl)) H (fun _ _ h => ⟨rfl, h⟩) fun r188 aw189 H => ?_
    refine lk (dt := some 29) R11_5_N rfl rfl rfl (opv_move rfl rfl h6) ?_
    refine lk_call (dt := some 30) R11_5_N rfl rfl rfl (opc_of rfl rfl is36 (ma_cons rfl rfl)) H (fun _ _ h => ⟨rfl, h⟩) fun r190 aw191 H => ?_
    refine lk (dt := some 31) R11_5_N rfl rfl rfl (opv_move rfl rfl h6) ?_
    refine lk_call (dt := some 32) R11_5_N rfl rfl rfl (opc_of rfl rfl is36 (ma_cons rfl rfl)) H (fun _ _ h => ⟨rfl, h⟩) fun r192 aw193 H => ?_
    refine lk (dt := some 33) R11_5_N rfl rfl rfl (opv_move rfl rfl h6) ?_
    refine lk_call (dt := some 34) R11_5_N rfl rfl rfl (opc_of rfl rfl is36 (ma_cons rfl rfl)) H (fun _ _ h => ⟨rfl, h⟩) fun r194 aw195 H => ?_
    refine lk (dt := some 35) R11_5_N rfl rfl rfl (opv_move rfl rfl h6) ?_
    refine lk_call (dt := some 36) R11_5_N rfl rfl rfl (opc_of rfl rfl is34 (ma_cons rfl (ma_cons rfl rfl))) H (fun _ _ h => ⟨rfl, h⟩) fun r196 aw197 H => ?_
    refine lk (dt := some 37) R11_5_N rfl rfl rfl (opv_eqI rfl rfl rfl rfl rfl) ?_
    refine lk (dt := some 38) R11_5_N rfl rfl rfl (ov_bld (r := [.int .u8 (IntKind.u8.wrap r182), .int .i64 r184, .int .i64 r186, .int .u64 r188, .int .u64 r190, .int .u64 r192, .int .u64 r194, .bool (decide (r196 = 1)), (.slice none 0 0), (.slice none 0 0)]) rfl rfl bo43 (mp_cons rfl (mp_cons rfl (mp_cons rfl (mp_cons rfl (mp_cons rfl (mp_cons rfl (mp_cons rfl (mp_cons rfl rfl)))))))) (fillP rfl rfl rfl rfl (fillP rfl rfl rfl rfl (fillP rfl rfl rfl rfl (fillP rfl rfl rfl rfl (fillP rfl rfl rfl rfl (fillP rfl rfl rfl rfl (fillP rfl rfl rfl rfl (fillP rfl rfl rfl rfl (fillN rfl)))))))))) ?_
    obtain ⟨p198, aw199, hp200, ha201, H⟩ := H
    refine lk (dt := some 7) R11_5_N rfl rfl rfl (ov_alloc rfl z43 rfl rfl hp200 ha201) ?_
    obtain ⟨b203, i204, aw202, hp205, hw206, ho207, ha208, H⟩ := H
    refine lk (dt := none) R11_5_N rfl rfl rfl (ov_st rfl rfl rfl rfl rfl rfl sz43 hp205 hw206 ho207 ha208) ?_
    refine aops_nil ?_
    refine ago_seqE E11_16 ?_
    refine ago_seqE E11_17 ?_
    refine ago_cut (fun ρ => ρ 2 = p143 ∧ ρ 6 = r180 ∧ ρ 7 = p198 ∧ True) ⟨h2, h6, rfl, trivial⟩ (fun ρ ⟨h2, h6, h7, _⟩ => ?_)
    refine ago_regE E11_18 (l := [0, 1, 2]) rfl ?_
    refine lk (dt := some 39) R11_6_N rfl rfl rfl (opv_move rfl rfl h6) ?_
    refine lk_call (dt := some 40) R11_6_N rfl rfl rfl (opc_of rfl rfl is34 (ma_cons rfl (ma_cons rfl rfl))) H (fun _ _ h => ⟨rfl, h⟩) fun r209 aw210 H => ?_
    refine lk (dt := some 8) R11_6_N rfl rfl rfl (opv_assign rfl rfl rfl) ?_
    refine aops_nil ?_
    refine ago_blockE E11_19 ?_
    refine ago_loopE E11_20 ?_
    obtain ⟨n, H⟩ := H
    exact S11_1_ok Q E  n _ p143 r180 p198 r209 aw210 h2 h6 h7 rfl H
theorem F11_ok {Q : (Int × Int × Int × Int × Int × Int × Int × Bool × Value × Value × Int) → AW → Prop} {E : List PanicEntry → AW → Prop} (b_0 : Value) (aw : AW) (H : S11_0 Q E b_0 aw) : CallP prog 11 [b_0] aw sh11 Q E :=
  callP_of func11 C11_is rfl (Nat.le_of_ble_eq_true rfl) (S11_0_ok Q E _ b_0 aw rfl H)
def C45_0 : Code := bodyOf f45
theorem C45_is : f45.body = some C45_0 := by kernel_rfl
def C45_1 : Code := cl C45_0
def R45_0 : Array Oper := regOps C45_1
def C45_2 : Code := cr C45_0
def C45_3 : Code := cl C45_2
def C45_4 : Code := cl C45_3
def R45_1 : Array Oper := regOps C45_4
def C45_5 : Code := cr C45_3
def C45_6 : Code := cl C45_5
def C45_7 : Code := cl C45_6
def R45_2 : Array Oper := regOps C45_7
def C45_8 : Code := cr C45_6
def C45_9 : Code := cr C45_5
def C45_10 : Code := cr C45_2
def C45_11 : Code := cl C45_10
def C45_12 : Code := cl C45_11
def R45_3 : Array Oper := regOps C45_12
def C45_13 : Code := cr C45_11
def C45_14 : Code := cl C45_13
def C45_15 : Code := cl C45_14
def C45_16 : Code := cl C45_15
def C45_17 : Code := cl C45_16
def R45_4 : Array Oper := regOps C45_17
def C45_18 : Code := cr C45_16
def C45_19 : Code := cl C45_18
def C45_20 : Code := cr C45_18
def C45_21 : Code := cr C45_15
def C45_22 : Code := cl C45_21
def C45_23 : Code := cl C45_22
def C45_24 : Code := cl C45_23
def R45_6 : Array Oper := regOps C45_24
def C45_25 : Code := cr C45_23
def C45_26 : Code := cl C45_25
def C45_27 : Code := cl C45_26
def R45_7 : Array Oper := regOps C45_27
def C45_28 : Code := cr C45_26
def C45_29 : Code := cr C45_25
def C45_30 : Code := cr C45_21
def R45_5 : Array Oper := regOps C45_30
def C45_31 : Code := cr C45_10
def C45_32 : Code := cl C45_31
def R45_8 : Array Oper := regOps C45_32
def C45_33 : Code := cr C45_31
theorem R45_0_N : dstsOk 27 R45_0 = true := by decide +kernel
theorem E45_1 : C45_1 = .region 0 R45_0 false := rfl
theorem R45_1_N : dstsOk 27 R45_1 = true := by decide +kernel
theorem E45_4 : C45_4 = .region 1 R45_1 false := rfl
theorem R45_2_N : dstsOk 27 R45_2 = true := by decide +kernel
theorem E45_7 : C45_7 = .region 2 R45_2 false := rfl
theorem E45_8 : C45_8 = .ret := rfl
theorem E45_6 : C45_6 = .seq C45_7 C45_8 := rfl
theorem E45_9 : C45_9 = .skip := rfl
theorem E45_5 : C45_5 = .cond (.tmp 10) C45_6 C45_9 := rfl
theorem E45_3 : C45_3 = .seq C45_4 C45_5 := rfl
theorem R45_3_N : dstsOk 27 R45_3 = true := by decide +kernel
theorem E45_12 : C45_12 = .region 3 R45_3 false := rfl
theorem R45_4_N : dstsOk 27 R45_4 = true := by decide +kernel
theorem E45_17 : C45_17 = .region 4 R45_4 false := rfl
theorem E45_19 : C45_19 = .skip := rfl
theorem E45_20 : C45_20 = .exit 0 := rfl
theorem E45_18 : C45_18 = .cond (.tmp 14) C45_19 C45_20 := rfl
theorem E45_16 : C45_16 = .seq C45_17 C45_18 := rfl
theorem R45_6_N : dstsOk 27 R45_6 = true := by decide +kernel
theorem R45_6_O : linOk R45_6 [0, 1, 2, 3, 4, 5, 6, 7] [(8, [], [9])] = true := by decide +kernel
theorem E45_24 : C45_24 = .region 6 R45_6 true := rfl
theorem R45_7_N : dstsOk 27 R45_7 = true := by decide +kernel
theorem E45_27 : C45_27 = .region 7 R45_7 false := rfl
theorem E45_28 : C45_28 = .ret := rfl
theorem E45_26 : C45_26 = .seq C45_27 C45_28 := rfl
theorem E45_29 : C45_29 = .skip := rfl
theorem E45_25 : C45_25 = .cond (.tmp 26) C45_26 C45_29 := rfl
theorem E45_23 : C45_23 = .seq C45_24 C45_25 := rfl
theorem E45_22 : C45_22 = .block 1 C45_23 := rfl
theorem R45_5_N : dstsOk 27 R45_5 = true := by decide +kernel
theorem E45_30 : C45_30 = .region 5 R45_5 false := rfl
theorem E45_21 : C45_21 = .seq C45_22 C45_30 := rfl
theorem E45_15 : C45_15 = .seq C45_16 C45_21 := rfl
theorem E45_14 : C45_14 = .loop C45_15 := rfl
theorem E45_13 : C45_13 = .block 0 C45_14 := rfl
theorem E45_11 : C45_11 = .seq C45_12 C45_13 := rfl
theorem R45_8_N : dstsOk 27 R45_8 = true := by decide +kernel
theorem E45_32 : C45_32 = .region 8 R45_8 false := rfl
theorem E45_33 : C45_33 = .ret := rfl
theorem E45_31 : C45_31 = .seq C45_32 C45_33 := rfl
theorem E45_10 : C45_10 = .seq C45_11 C45_31 := rfl
theorem E45_2 : C45_2 = .seq C45_3 C45_10 := rfl
theorem E45_0 : C45_0 = .seq C45_1 C45_2 := rfl
def S45_1s (Q : Bool → AW → Prop) (E : List PanicEntry → AW → Prop)  (nx1 : Value → Value → Int → AW → Prop) (a_0 : Value) (b_1 : Value) (i_5 : Int) (aw : AW) : Prop :=
  slen a_0 fun n1 =>
  cnd (decide (i_5 < n1)) (ixS a_0 i_5 4 fun p8 =>
  ptr p8 fun b17 i18 =>
  gI .u64 aw b17 i18 fun c20 =>
  gI .u64 aw b17 (i18 + 1) fun c21 =>
  gI .u64 aw b17 (i18 + 2) fun c22 =>
  gV aw b17 (i18 + 3) fun c23 =>
  ixS b_1 i_5 4 fun p28 =>
  ptr p28 fun b37 i38 =>
  gI .u64 aw b37 i38 fun c40 =>
  gI .u64 aw b37 (i38 + 1) fun c41 =>
  gI .u64 aw b37 (i38 + 2) fun c42 =>
  gV aw b37 (i38 + 3) fun c43 =>
  CallP prog 64 [.agg #[.int .u64 c20, .int .u64 c21, .int .u64 c22, c23], .agg #[.int .u64 c40, .int .u64 c41, .int .u64 c42, c43]] aw sh64 (fun r48 aw49 =>
  cnd (!r48) (Q false aw49) (nx1 a_0 b_1 (IntKind.i64.wrap (i_5 + 1)) aw49)) E) (Q true aw)
def S45_1 (Q : Bool → AW → Prop) (E : List PanicEntry → AW → Prop)  : Nat → Value → Value → Int → AW → Prop
  | 0 => fun _ _ _ _ => False
  | n + 1 => S45_1s Q E  (S45_1 Q E  n)
def S45_0 (Q : Bool → AW → Prop) (E : List PanicEntry → AW → Prop)  (a_0 : Value) (b_1 : Value) (aw : AW) : Prop :=
  slen a_0 fun n51 =>
  slen b_1 fun n57 =>
  cnd (!decide (n51 = n57)) (Q false aw) (∃ n, S45_1 Q E  n a_0 b_1 0 aw)
theorem S45_1s_ok (Q : Bool → AW → Prop) (E : List PanicEntry → AW → Prop)  (nx1 : Value → Value → Int → AW → Prop) (L1 : ∀ (ρ : Env) (a_0 : Value) (b_1 : Value) (i_5 : Int) (aw : AW) (h0 : ρ 0 = a_0) (h1 : ρ 1 = b_1) (h5 : ρ 5 = .int .i64 i_5), nx1 a_0 b_1 i_5 aw → AGo prog 27 [.code C45_15, .inLoop C45_15, .inBlock 0, .code C45_31] ρ [] aw (RR prog f45 27 sh45 Q E)) (ρ : Env) (a_0 : Value) (b_1 : Value) (i_5 : Int) (aw : AW) (h0 : ρ 0 = a_0) (h1 : ρ 1 = b_1) (h5 : ρ 5 = .int .i64 i_5) (H : S45_1s Q E  nx1 a_0 b_1 i_5 aw) :
    AGo prog 27 [.code C45_15, .inLoop C45_15, .inBlock 0, .code C45_31] ρ [] aw (RR prog f45 27 sh45 Q E) := by
  unfold S45_1s at H
  refine ago_seqE E45_15 ?_
  refine ago_seqE E45_16 ?_
  refine ago_regE E45_17 (l := [0, 1, 2, 3]) rfl ?_
  refine lk (dt := some 11) R45_4_N rfl rfl rfl (opv_move rfl rfl h5) ?_
  refine lk (dt := some 12) R45_4_N rfl rfl rfl (opv_move rfl rfl h0) ?_
  obtain ⟨q2, l3, c4, n1, hv5, hn6, H⟩ := H
  refine lk (dt := some 13) R45_4_N rfl rfl rfl (ov_len rfl rfl rfl underlying26 rfl hv5 hn6) ?_
  refine lk (dt := some 14) R45_4_N rfl rfl rfl (opv_lt rfl rfl rfl rfl rfl) ?_
  refine aops_nil ?_
  refine ago_condE  E45_18 rfl rfl (fun hb7 => ?_) (fun hb7 => ?_)
  · replace H := cnd_t H hb7
    refine ago_skipE E45_19 ?_
    refine ago_seqE E45_21 ?_
    refine ago_blockE E45_22 ?_
    refine ago_seqE E45_23 ?_
    obtain ⟨b9, i10, l11, c12, p8, hp13, h014, hj15, hv16, H⟩ := H
    obtain ⟨b17, i18, hp19, c20, hg24, c21, hg25, c22, hg26, c23, hg27, H⟩ := H
    obtain ⟨b29, i30, l31, c32, p28, hp33, h034, hj35, hv36, H⟩ := H
    obtain ⟨b37, i38, hp39, c40, hg44, c41, hg45, c42, hg46, c43, hg47, H⟩ := H
    refine ago_drawH (p := [0, 1, 2, 3, 4, 5, 6, 7]) (tl := [(8, [], [9])]) (hv := [(0, a_0), (1, Value.int .i64 i_5), (2, p8), (3, Value.agg #[.int .u64 c20, .int .u64 c21, .int .u64 c22, c23]), (4, b_1), (5, Value.int .i64 i_5), (6, p28), (7, Value.agg #[.int .u64 c40, .int .u64 c41, .int .u64 c42, c43])]) E45_24 mixed R45_6_N R45_6_O rfl (pv_cons rfl (pv_cons rfl (pv_cons rfl (pv_cons rfl (pv_cons rfl (pv_cons rfl (pv_cons rfl (pv_cons rfl (pv_nil _)))))))))
      (ffc (d := 17) (v := a_0) (hd_v rfl fun ρ hρ => ⟨rfl, opv_move rfl rfl ((hρ 0 (lmem rfl)).trans h0)⟩) rfl rfl
      (ffc (d := 18) (v := .int .i64 i_5) (hd_v rfl fun ρ hρ => ⟨rfl, opv_move rfl rfl ((hρ 5 (lmem rfl)).trans h5)⟩) rfl rfl
      (ffc (d := 19) (v := p8) (hd_v rfl fun ρ hρ => ⟨rfl, ov_ixS rfl rfl rfl underlying26 sz40 ((hρ 17 (lmem rfl)).trans rfl) ((hρ 18 (lmem rfl)).trans rfl) hp13 h014 hj15 hv16⟩) rfl rfl
      (ffc (d := 20) (v := .agg #[.int .u64 c20, .int .u64 c21, .int .u64 c22, c23]) (hd_v rfl fun ρ hρ => ⟨rfl, ov_ldN rfl underlying40 rfl sz40 rfl ((hρ 19 (lmem rfl)).trans rfl) hp19 (getN_cons hg24 (getN_cons hg25 (getN_cons hg26 (getN_cons hg27 getN_nil))))⟩) rfl rfl
      (ffc (d := 21) (v := b_1) (hd_v rfl fun ρ hρ => ⟨rfl, opv_move rfl rfl ((hρ 1 (lmem rfl)).trans h1)⟩) rfl rfl
      (ffc (d := 22) (v := .int .i64 i_5) (hd_v rfl fun ρ hρ => ⟨rfl, opv_move rfl rfl ((hρ 5 (lmem rfl)).trans h5)⟩) rfl rfl
      (ffc (d := 23) (v := p28) (hd_v rfl fun ρ hρ => ⟨rfl, ov_ixS rfl rfl rfl underlying26 sz40 ((hρ 21 (lmem rfl)).trans rfl) ((hρ 22 (lmem rfl)).trans rfl) hp33 h034 hj35 hv36⟩) rfl rfl
      (ffc (d := 24) (v := .agg #[.int .u64 c40, .int .u64 c41, .int .u64 c42, c43]) (hd_v rfl fun ρ hρ => ⟨rfl, ov_ldN rfl underlying40 rfl sz40 rfl ((hρ 23 (lmem rfl)).trans rfl) hp39 (getN_cons hg44 (getN_cons hg45 (getN_cons hg46 (getN_cons hg47 getN_nil))))⟩) rfl rfl
      ffn)))))))) ?_
    refine lt_call (dt := some 25) rfl rfl (fun ρ hρ => ⟨rfl, opc_of rfl rfl is64 (ma_cons ((hρ 20 (lmem rfl)).trans rfl) (ma_cons ((hρ 24 (lmem rfl)).trans rfl) rfl))⟩) H (fun _ _ h _ => ⟨rfl, h⟩) fun r48 aw49 H => ?_
    refine lt_next (l := [9]) (hv := [(9, Value.bool (!r48))]) rfl rfl (pv_cons rfl (pv_nil _))
      (ffc (d := 26) (v := .bool (!r48)) (hd_v rfl fun ρ hρ => ⟨rfl, opv_not rfl rfl ((hρ 25 (lmem rfl)).trans rfl)⟩) rfl rfl
      ffn) ?_
    refine lt_end ?_
    refine ago_condE  E45_25 rfl rfl (fun hb50 => ?_) (fun hb50 => ?_)
    · replace H := cnd_t H hb50
      refine ago_seqE E45_26 ?_
      refine ago_regE E45_27 (l := [0]) rfl ?_
      refine lk (dt := some 4) R45_7_N rfl rfl rfl (opv_assign rfl rfl rfl) ?_
      refine aops_nil ?_
      exact ago_retE E45_28 (r := false) (ares_1 rfl (oneT rfl)) rfl H
    · replace H := cnd_f H hb50
      refine ago_skipE E45_29 ?_
      refine ago_inBlock ?_
      refine ago_cut (fun ρ => ρ 0 = a_0 ∧ ρ 1 = b_1 ∧ ρ 5 = .int .i64 i_5 ∧ True) ⟨h0, h1, h5, trivial⟩ (fun ρ ⟨h0, h1, h5, _⟩ => ?_)
      refine ago_regE E45_30 (l := [0, 1, 2]) rfl ?_
      refine lk (dt := some 15) R45_5_N rfl rfl rfl (opv_move rfl rfl h5) ?_
      refine lk (dt := some 16) R45_5_N rfl rfl rfl (opv_add rfl rfl rfl rfl rfl) ?_
      refine lk (dt := some 5) R45_5_N rfl rfl rfl (opv_assign rfl rfl rfl) ?_
      refine aops_nil ?_
      refine ago_inLoop ?_
      exact L1 _ a_0 b_1 (IntKind.i64.wrap (i_5 + 1)) aw49 h0 h1 rfl H
  · replace H := cnd_f H hb7
    refine ago_exitE E45_20 rfl ?_
    refine ago_seqE E45_31 ?_
    refine ago_regE E45_32 (l := [0]) rfl ?_
    refine lk (dt := some 4) R45_8_N rfl rfl rfl (opv_assign rfl rfl rfl) ?_
    refine aops_nil ?_
    exact ago_retE E45_33 (r := true) (ares_1 rfl (oneT rfl)) rfl H
theorem S45_1_ok (Q : Bool → AW → Prop) (E : List PanicEntry → AW → Prop)  : ∀ (n : Nat) (ρ : Env) (a_0 : Value) (b_1 : Value) (i_5 : Int) (aw : AW) (h0 : ρ 0 = a_0) (h1 : ρ 1 = b_1) (h5 : ρ 5 = .int .i64 i_5), S45_1 Q E  n a_0 b_1 i_5 aw →
    AGo prog 27 [.code C45_15, .inLoop C45_15, .inBlock 0, .code C45_31] ρ [] aw (RR prog f45 27 sh45 Q E)
  | 0, _, _, _, _, _, _, _, _ => fun H => H.elim
  | n + 1, ρ, a_0, b_1, i_5, aw, h0, h1, h5 => fun H => S45_1s_ok Q E  _ (S45_1_ok Q E  n) ρ a_0 b_1 i_5 aw h0 h1 h5 H
theorem S45_0_ok (Q : Bool → AW → Prop) (E : List PanicEntry → AW → Prop)  (ρ : Env) (a_0 : Value) (b_1 : Value) (aw : AW) (h0 : ρ 0 = a_0) (h1 : ρ 1 = b_1) (H : S45_0 Q E  a_0 b_1 aw) :
    AGo prog 27 [.code C45_0] ρ [] aw (RR prog f45 27 sh45 Q E) := by
  unfold S45_0 at H
  refine ago_seqE E45_0 ?_
  refine ago_regE E45_1 (l := [0]) rfl ?_
  refine lk (dt := some 4) R45_0_N rfl rfl rfl (opv_assign rfl rfl rfl) ?_
  refine aops_nil ?_
  refine ago_seqE E45_2 ?_
  refine ago_seqE E45_3 ?_
  refine ago_regE E45_4 (l := [0, 1, 2, 3, 4]) rfl ?_
  refine lk (dt := some 6) R45_1_N rfl rfl rfl (opv_move rfl rfl h0) ?_
  obtain ⟨q52, l53, c54, n51, hv55, hn56, H⟩ := H
  refine lk (dt := some 7) R45_1_N rfl rfl rfl (ov_len rfl rfl rfl underlying26 rfl hv55 hn56) ?_
  refine lk (dt := some 8) R45_1_N rfl rfl rfl (opv_move rfl rfl h1) ?_
  obtain ⟨q58, l59, c60, n57, hv61, hn62, H⟩ := H
  refine lk (dt := some 9) R45_1_N rfl rfl rfl (ov_len rfl rfl rfl underlying26 rfl hv61 hn62) ?_
  refine lk (dt := some 10) R45_1_N rfl rfl rfl (opv_neI rfl rfl rfl rfl rfl) ?_
  refine aops_nil ?_
  refine ago_condE  E45_5 rfl rfl (fun hb63 => ?_) (fun hb63 => ?_)
  · replace H := cnd_t H hb63
    refine ago_seqE E45_6 ?_
    refine ago_regE E45_7 (l := [0]) rfl ?_
    refine lk (dt := some 4) R45_2_N rfl rfl rfl (opv_assign rfl rfl rfl) ?_
    refine aops_nil ?_
    exact ago_retE E45_8 (r := false) (ares_1 rfl (oneT rfl)) rfl H
  · replace H := cnd_f H hb63
    refine ago_skipE E45_9 ?_
    refine ago_seqE E45_10 ?_
    refine ago_seqE E45_11 ?_
    refine ago_regE E45_12 (l := [0]) rfl ?_
    refine lk (dt := some 5) R45_3_N rfl rfl rfl (opv_assign rfl rfl rfl) ?_
    refine aops_nil ?_
    refine ago_blockE E45_13 ?_
    refine ago_loopE E45_14 ?_
    obtain ⟨n, H⟩ := H
    exact S45_1_ok Q E  n _ a_0 b_1 0 aw h0 h1 rfl H
theorem F45_ok {Q : Bool → AW → Prop} {E : List PanicEntry → AW → Prop} (a_0 : Value) (b_1 : Value) (aw : AW) (H : S45_0 Q E a_0 b_1 aw) : CallP prog 45 [a_0, b_1] aw sh45 Q E :=
  callP_of func45 C45_is rfl (Nat.le_of_ble_eq_true rfl) (S45_0_ok Q E _ a_0 b_1 aw rfl rfl H)
def C13_0 : Code := bodyOf f13
theorem C13_is : f13.body = some C13_0 := by kernel_rfl
def C13_1 : Code := cl C13_0
def R13_0 : Array Oper := regOps C13_1
def C13_2 : Code := cr C13_0
def C13_3 : Code := cl C13_2
def R13_1 : Array Oper := regOps C13_3
def C13_4 : Code := cr C13_2
theorem R13_0_N : dstsOk 75 R13_0 = true := by decide +kernel
theorem E13_1 : C13_1 = .region 0 R13_0 false := rfl
theorem R13_1_N : dstsOk 75 R13_1 = true := by decide +kernel
theorem E13_3 : C13_3 = .region 1 R13_1 false := rfl
theorem E13_4 : C13_4 = .ret := rfl
theorem E13_2 : C13_2 = .seq C13_3 C13_4 := rfl
theorem E13_0 : C13_0 = .seq C13_1 C13_2 := rfl
def S13_0 (Q : Bool → AW → Prop) (E : List PanicEntry → AW → Prop)  (a_0_0 : Int) (a_0_1 : Int) (a_0_2 : Int) (a_0_3 : Int) (a_0_4 : Int) (a_0_5 : Int) (a_0_6 : Int) (a_0_7 : Bool) (a_0_8 : Value) (a_0_9 : Value) (b_1_0 : Int) (b_1_1 : Int) (b_1_2 : Int) (b_1_3 : Int) (b_1_4 : Int) (b_1_5 : Int) (b_1_6 : Int) (b_1_7 : Bool) (b_1_8 : Value) (b_1_9 : Value) (aw : AW) : Prop :=
  alc aw [.int .u8 a_0_0, .int .i64 a_0_1, .int .i64 a_0_2, .int .u64 a_0_3, .int .u64 a_0_4, .int .u64 a_0_5, .int .u64 a_0_6, .bool a_0_7, a_0_8, a_0_9] 46 0 fun p1 aw2 =>
  alc aw2 [.int .u8 b_1_0, .int .i64 b_1_1, .int .i64 b_1_2, .int .u64 b_1_3, .int .u64 b_1_4, .int .u64 b_1_5, .int .u64 b_1_6, .bool b_1_7, b_1_8, b_1_9] 46 0 fun p5 aw6 =>
  fldA p1 0 fun p9 =>
  ldI .u8 aw6 p9 fun x17 =>
  fldA p5 0 fun p19 =>
  ldI .u8 aw6 p19 fun x27 =>
  cnd (decide (x17 = x27)) (fldA p1 1 fun p30 =>
  ldI .i64 aw6 p30 fun x38 =>
  fldA p5 1 fun p40 =>
  ldI .i64 aw6 p40 fun x48 =>
  cnd (decide (x38 = x48)) (fldA p1 2 fun p51 =>
  ldI .i64 aw6 p51 fun x59 =>
  fldA p5 2 fun p61 =>
  ldI .i64 aw6 p61 fun x69 =>
  cnd (decide (x59 = x69)) (fldA p1 3 fun p72 =>
  ldI .u64 aw6 p72 fun x80 =>
  fldA p5 3 fun p82 =>
  ldI .u64 aw6 p82 fun x90 =>
  cnd (decide (x80 = x90)) (fldA p1 4 fun p93 =>
  ldI .u64 aw6 p93 fun x101 =>
  fldA p5 4 fun p103 =>
  ldI .u64 aw6 p103 fun x111 =>
  cnd (decide (x101 = x111)) (fldA p1 5 fun p114 =>
  ldI .u64 aw6 p114 fun x122 =>
  fldA p5 5 fun p124 =>
  ldI .u64 aw6 p124 fun x132 =>
  cnd (decide (x122 = x132)) (fldA p1 6 fun p135 =>
  ldI .u64 aw6 p135 fun x143 =>
  fldA p5 6 fun p145 =>
  ldI .u64 aw6 p145 fun x153 =>
  cnd (decide (x143 = x153)) (fldA p1 7 fun p156 =>
  ldB aw6 p156 fun x164 =>
  fldA p5 7 fun p166 =>
  ldB aw6 p166 fun x174 =>
  cnd ((x164 == x174)) (fldA p1 8 fun p177 =>
  ldV aw6 p177 fun x185 =>
  fldA p5 8 fun p187 =>
  ldV aw6 p187 fun x195 =>
  CallP prog 45 [x185, x195] aw6 sh45 (fun r197 aw198 =>
  cnd r197 (fldA p1 9 fun p200 =>
  ldV aw198 p200 fun x208 =>
  toS aw198 x208 fun s210 =>
  fldA p5 9 fun p217 =>
  ldV aw198 p217 fun x225 =>
  toS aw198 x225 fun s227 =>
  Q (decide (s210 = s227)) aw198) (Q false aw198)) E) (Q false aw6)) (Q false aw6)) (Q false aw6)) (Q false aw6)) (Q false aw6)) (Q false aw6)) (Q false aw6)) (Q false aw6)
theorem S13_0_ok (Q : Bool → AW → Prop) (E : List PanicEntry → AW → Prop)  (ρ : Env) (a_0_0 : Int) (a_0_1 : Int) (a_0_2 : Int) (a_0_3 : Int) (a_0_4 : Int) (a_0_5 : Int) (a_0_6 : Int) (a_0_7 : Bool) (a_0_8 : Value) (a_0_9 : Value) (b_1_0 : Int) (b_1_1 : Int) (b_1_2 : Int) (b_1_3 : Int) (b_1_4 : Int) (b_1_5 : Int) (b_1_6 : Int) (b_1_7 : Bool) (b_1_8 : Value) (b_1_9 : Value) (aw : AW) (h0 : ρ 0 = .agg #[.int .u8 a_0_0, .int .i64 a_0_1, .int .i64 a_0_2, .int .u64 a_0_3, .int .u64 a_0_4, .int .u64 a_0_5, .int .u64 a_0_6, .bool a_0_7, a_0_8, a_0_9]) (h1 : ρ 1 = .agg #[.int .u8 b_1_0, .int .i64 b_1_1, .int .i64 b_1_2, .int .u64 b_1_3, .int .u64 b_1_4, .int .u64 b_1_5, .int .u64 b_1_6, .bool b_1_7, b_1_8, b_1_9]) (H : S13_0 Q E  a_0_0 a_0_1 a_0_2 a_0_3 a_0_4 a_0_5 a_0_6 a_0_7 a_0_8 a_0_9 b_1_0 b_1_1 b_1_2 b_1_3 b_1_4 b_1_5 b_1_6 b_1_7 b_1_8 b_1_9 aw) :
    AGo prog 75 [.code C13_0] ρ [] aw (RR prog f13 75 sh13 Q E) := by
  unfold S13_0 at H
  refine ago_seqE E13_0 ?_
  refine ago_regE E13_1 (l := [0, 1, 2]) rfl ?_
  obtain ⟨p1, aw2, hp3, ha4, H⟩ := H
  refine lk (dt := some 2) R13_0_N rfl rfl rfl (ov_box rfl rfl h0 rfl hp3 ha4) ?_
  obtain ⟨p5, aw6, hp7, ha8, H⟩ := H
  refine lk (dt := some 3) R13_0_N rfl rfl rfl (ov_box rfl rfl h1 rfl hp7 ha8) ?_
  refine lk (dt := some 4) R13_0_N rfl rfl rfl (opv_assign rfl rfl rfl) ?_
  refine aops_nil ?_
  refine ago_seqE E13_2 ?_
  refine ago_regE E13_3 (l := [0, 1, 2, 3, 4, 5, 6, 7, 8, 9, 10, 11, 12, 13, 14, 15, 16, 17, 18, 19, 20, 21, 22, 23, 24, 25, 26, 27, 28, 29, 30, 31, 32, 33, 34, 35, 36, 37, 38, 39, 40, 41, 42, 43, 44, 45, 46, 47, 48, 49, 50, 51, 52, 53, 54, 55, 56, 57, 58, 59, 60, 61, 62, 63, 64, 65, 66, 67, 68, 69, 70]) rfl ?_
  obtain ⟨b10, i11, p9, hp12, hv13, H⟩ := H
  refine lk (dt := some 5) R13_1_N rfl rfl rfl (ov_fldA rfl rfl underlying46 rfl sz5 (by decide) rfl hp12 rfl hv13) ?_
  obtain ⟨b14, i15, x17, hp16, hg18, H⟩ := H
  refine lk (dt := some 6) R13_1_N rfl rfl rfl (ov_ldI rfl underlying5 rfl rfl hp16 hg18) ?_
  obtain ⟨b20, i21, p19, hp22, hv23, H⟩ := H
  refine lk (dt := some 7) R13_1_N rfl rfl rfl (ov_fldA rfl rfl underlying46 rfl sz5 (by decide) rfl hp22 rfl hv23) ?_
  obtain ⟨b24, i25, x27, hp26, hg28, H⟩ := H
  refine lk (dt := some 8) R13_1_N rfl rfl rfl (ov_ldI rfl underlying5 rfl rfl hp26 hg28) ?_
  refine lk (dt := some 9) R13_1_N rfl rfl rfl (opv_eqI rfl rfl rfl rfl rfl) ?_
  refine lk (dt := some 10) R13_1_N rfl rfl rfl (opv_move rfl rfl rfl) ?_
  rcases Bool.eq_false_or_eq_true (decide (x17 = x27)) with hb29 | hb29
  · replace H := cnd_t H hb29
    obtain ⟨b31, i32, p30, hp33, hv34, H⟩ := H
    refine lk (dt := some 11) R13_1_N rfl rfl ⟨_, rfl, .inl ⟨_, rfl, gq hb29 rfl⟩⟩ (ov_fldA rfl rfl underlying46 rfl sz3 (by decide) rfl hp33 rfl hv34) ?_
    obtain ⟨b35, i36, x38, hp37, hg39, H⟩ := H
    refine lk (dt := some 12) R13_1_N rfl rfl ⟨_, rfl, .inl ⟨_, rfl, gq hb29 rfl⟩⟩ (ov_ldI rfl underlying3 rfl rfl hp37 hg39) ?_
    obtain ⟨b41, i42, p40, hp43, hv44, H⟩ := H
    refine lk (dt := some 13) R13_1_N rfl rfl ⟨_, rfl, .inl ⟨_, rfl, gq hb29 rfl⟩⟩ (ov_fldA rfl rfl underlying46 rfl sz3 (by decide) rfl hp43 rfl hv44) ?_
    obtain ⟨b45, i46, x48, hp47, hg49, H⟩ := H
    refine lk (dt := some 14) R13_1_N rfl rfl ⟨_, rfl, .inl ⟨_, rfl, gq hb29 rfl⟩⟩ (ov_ldI rfl underlying3 rfl rfl hp47 hg49) ?_
    refine lk (dt := some 15) R13_1_N rfl rfl ⟨_, rfl, .inl ⟨_, rfl, gq hb29 rfl⟩⟩ (opv_eqI rfl rfl rfl rfl rfl) ?_
    refine lk (dt := some 16) R13_1_N rfl rfl rfl (ov_pickT rfl rfl rfl rfl rfl hb29 rfl) ?_
    refine lk (dt := some 17) R13_1_N rfl rfl rfl (opv_move rfl rfl rfl) ?_
    rcases Bool.eq_false_or_eq_true (decide (x38 = x48)) with hb50 | hb50
    · replace H := cnd_t H hb50
      obtain ⟨b52, i53, p51, hp54, hv55, H⟩ := H
      refine lk (dt := some 18) R13_1_N rfl rfl ⟨_, rfl, .inl ⟨_, rfl, gq hb50 rfl⟩⟩ (ov_fldA rfl rfl underlying46 rfl sz3 (by decide) rfl hp54 rfl hv55) ?_
      obtain ⟨b56, i57, x59, hp58, hg60, H⟩ := H
      refine lk (dt := some 19) R13_1_N rfl rfl ⟨_, rfl, .inl ⟨_, rfl, gq hb50 rfl⟩⟩ (ov_ldI rfl underlying3 rfl rfl hp58 hg60) ?_
      obtain ⟨b62, i63, p61, hp64, hv65, H⟩ := H
      refine lk (dt := some 20) R13_1_N rfl rfl ⟨_, rfl, .inl ⟨_, rfl, gq hb50 rfl⟩⟩ (ov_fldA rfl rfl underlying46 rfl sz3 (by decide) rfl hp64 rfl hv65) ?_
      obtain ⟨b66, i67, x69, hp68, hg70, H⟩ := H
      refine lk (dt := some 21) R13_1_N rfl rfl ⟨_, rfl, .inl ⟨_, rfl, gq hb50 rfl⟩⟩ (ov_ldI rfl underlying3 rfl rfl hp68 hg70) ?_
      refine lk (dt := some 22) R13_1_N rfl rfl ⟨_, rfl, .inl ⟨_, rfl, gq hb50 rfl⟩⟩ (opv_eqI rfl rfl rfl rfl rfl) ?_
      refine lk (dt := some 23) R13_1_N rfl rfl rfl (ov_pickT rfl rfl rfl rfl rfl hb50 rfl) ?_
      refine lk (dt := some 24) R13_1_N rfl rfl rfl (opv_move rfl rfl rfl) ?_
      rcases Bool.eq_false_or_eq_true (decide (x59 = x69)) with hb71 | hb71
      · replace H := cnd_t H hb71
        obtain ⟨b73, i74, p72, hp75, hv76, H⟩ := H
        refine lk (dt := some 25) R13_1_N rfl rfl ⟨_, rfl, .inl ⟨_, rfl, gq hb71 rfl⟩⟩ (ov_fldA rfl rfl underlying46 rfl sz24 (by decide) rfl hp75 rfl hv76) ?_
        obtain ⟨b77, i78, x80, hp79, hg81, H⟩ := H
        refine lk (dt := some 26) R13_1_N rfl rfl ⟨_, rfl, .inl ⟨_, rfl, gq hb71 rfl⟩⟩ (ov_ldI rfl underlying24 rfl rfl hp79 hg81) ?_
        obtain ⟨b83, i84, p82, hp85, hv86, H⟩ := H
        refine lk (dt := some 27) R13_1_N rfl rfl ⟨_, rfl, .inl ⟨_, rfl, gq hb71 rfl⟩⟩ (ov_fldA rfl rfl underlying46 rfl sz24 (by decide) rfl hp85 rfl hv86) ?_
        obtain ⟨b87, i88, x90, hp89, hg91, H⟩ := H
        refine lk (dt := some 28) R13_1_N rfl rfl ⟨_, rfl, .inl ⟨_, rfl, gq hb71 rfl⟩⟩ (ov_ldI rfl underlying24 rfl rfl hp89 hg91) ?_
        refine lk (dt := some 29) R13_1_N rfl rfl ⟨_, rfl, .inl ⟨_, rfl, gq hb71 rfl⟩⟩ (opv_eqI rfl rfl rfl rfl rfl) ?_
        refine lk (dt := some 30) R13_1_N rfl rfl rfl (ov_pickT rfl rfl rfl rfl rfl hb71 rfl) ?_
        refine lk (dt := some 31) R13_1_N rfl rfl rfl (opv_move rfl rfl rfl) ?_
        rcases Bool.eq_false_or_eq_true (decide (x80 = x90)) with hb92 | hb92
        · replace H := cnd_t H hb92
          obtain ⟨b94, i95, p93, hp96, hv97, H⟩ := H
          refine lk (dt := some 32) R13_1_N rfl rfl ⟨_, rfl, .inl ⟨_, rfl, gq hb92 rfl⟩⟩ (ov_fldA rfl rfl underlying46 rfl sz24 (by decide) rfl hp96 rfl hv97) ?_
          obtain ⟨b98, i99, x101, hp100, hg102, H⟩ := H
          refine lk (dt := some 33) R13_1_N rfl rfl ⟨_, rfl, .inl ⟨_, rfl, gq hb92 rfl⟩⟩ (ov_ldI rfl underlying24 rfl rfl hp100 hg102) ?_
          obtain ⟨b104, i105, p103, hp106, hv107, H⟩ := H
          refine lk (dt := some 34) R13_1_N rfl rfl ⟨_, rfl, .inl ⟨_, rfl, gq hb92 rfl⟩⟩ (ov_fldA rfl rfl underlying46 rfl sz24 (by decide) rfl hp106 rfl hv107) ?_
          obtain ⟨b108, i109, x111, hp110, hg112, H⟩ := H
          refine lk (dt := some 35) R13_1_N rfl rfl ⟨_, rfl, .inl ⟨_, rfl, gq hb92 rfl⟩⟩ (ov_ldI rfl underlying24 rfl rfl hp110 hg112) ?_
          refine lk (dt := some 36) R13_1_N rfl rfl ⟨_, rfl, .inl ⟨_, rfl, gq hb92 rfl⟩⟩ (opv_eqI rfl rfl rfl rfl rfl) ?_
          refine lk (dt := some 37) R13_1_N rfl rfl rfl (ov_pickT rfl rfl rfl rfl rfl hb92 rfl) ?_
          refine lk (dt := some 38) R13_1_N rfl rfl rfl (opv_move rfl rfl rfl) ?_
          rcases Bool.eq_false_or_eq_true (decide (x101 = x111)) with hb113 | hb113
          · replace H := cnd_t H hb113
            obtain ⟨b115, i116, p114, hp117, hv118, H⟩ := H
            refine lk (dt := some 39) R13_1_N rfl rfl ⟨_, rfl, .inl ⟨_, rfl, gq hb113 rfl⟩⟩ (ov_fldA rfl rfl underlying46 rfl sz24 (by decide) rfl hp117 rfl hv118) ?_
            obtain ⟨b119, i120, x122, hp121, hg123, H⟩ := H
            refine lk (dt := some 40) R13_1_N rfl rfl ⟨_, rfl, .inl ⟨_, rfl, gq hb113 rfl⟩⟩ (ov_ldI rfl underlying24 rfl rfl hp121 hg123) ?_
            obtain ⟨b125, i126, p124, hp127, hv128, H⟩ := H
            refine lk (dt := some 41) R13_1_N rfl rfl ⟨_, rfl, .inl ⟨_, rfl, gq hb113 rfl⟩⟩ (ov_fldA rfl rfl underlying46 rfl sz24 (by decide) rfl hp127 rfl hv128) ?_
            obtain ⟨b129, i130, x132, hp131, hg133, H⟩ := H
            refine lk (dt := some 42) R13_1_N rfl rfl ⟨_, rfl, .inl ⟨_, rfl, gq hb113 rfl⟩⟩ (ov_ldI rfl underlying24 rfl rfl hp131 hg133) ?_
            refine lk (dt := some 43) R13_1_N rfl rfl ⟨_, rfl, .inl ⟨_, rfl, gq hb113 rfl⟩⟩ (opv_eqI rfl rfl rfl rfl rfl) ?_
            refine lk (dt := some 44) R13_1_N rfl rfl rfl (ov_pickT rfl rfl rfl rfl rfl hb113 rfl) ?_
            refine lk (dt := some 45) R13_1_N rfl rfl rfl (opv_move rfl rfl rfl) ?_
            rcases Bool.eq_false_or_eq_true (decide (x122 = x132)) with hb134 | hb134
            · replace H := cnd_t H hb134
              obtain ⟨b136, i137, p135, hp138, hv139, H⟩ := H
              refine lk (dt := some 46) R13_1_N rfl rfl ⟨_, rfl, .inl ⟨_, rfl, gq hb134 rfl⟩⟩ (ov_fldA rfl rfl underlying46 rfl sz24 (by decide) rfl hp138 rfl hv139) ?_
              obtain ⟨b140, i141, x143, hp142, hg144, H⟩ := H
              refine lk (dt := some 47) R13_1_N rfl rfl ⟨_, rfl, .inl ⟨_, rfl, gq hb134 rfl⟩⟩ (ov_ldI rfl underlying24 rfl rfl hp142 hg144) ?_
              obtain ⟨b146, i147, p145, hp148, hv149, H⟩ := H
              refine lk (dt := some 48) R13_1_N rfl rfl ⟨_, rfl, .inl ⟨_, rfl, gq hb134 rfl⟩⟩ (ov_fldA rfl rfl underlying46 rfl sz24 (by decide) rfl hp148 rfl hv149) ?_
              obtain ⟨b150, i151, x153, hp152, hg154, H⟩ := H
              refine lk (dt := some 49) R13_1_N rfl rfl ⟨_, rfl, .inl ⟨_, rfl, gq hb134 rfl⟩⟩ (ov_ldI rfl underlying24 rfl rfl hp152 hg154) ?_
              refine lk (dt := some 50) R13_1_N rfl rfl ⟨_, rfl, .inl ⟨_, rfl, gq hb134 rfl⟩⟩ (opv_eqI rfl rfl rfl rfl rfl) ?_
              refine lk (dt := some 51) R13_1_N rfl rfl rfl (ov_pickT rfl rfl rfl rfl rfl hb134 rfl) ?_
              refine lk (dt := some 52) R13_1_N rfl rfl rfl (opv_move rfl rfl rfl) ?_
              rcases Bool.eq_false_or_eq_true (decide (x143 = x153)) with hb155 | hb155
              · replace H := cnd_t H hb155
                obtain ⟨b157, i158, p156, hp159, hv160, H⟩ := H
                refine lk (dt := some 53) R13_1_N rfl rfl ⟨_, rfl, .inl ⟨_, rfl, gq hb155 rfl⟩⟩ (ov_fldA rfl rfl underlying46 rfl sz4 (by decide) rfl hp159 rfl hv160) ?_
                obtain ⟨b161, i162, x164, hp163, hg165, H⟩ := H
                refine lk (dt := some 54) R13_1_N rfl rfl ⟨_, rfl, .inl ⟨_, rfl, gq hb155 rfl⟩⟩ (ov_ldB rfl underlying4 rfl rfl hp163 hg165) ?_
                obtain ⟨b167, i168, p166, hp169, hv170, H⟩ := H
                refine lk (dt := some 55) R13_1_N rfl rfl ⟨_, rfl, .inl ⟨_, rfl, gq hb155 rfl⟩⟩ (ov_fldA rfl rfl underlying46 rfl sz4 (by decide) rfl hp169 rfl hv170) ?_
                obtain ⟨b171, i172, x174, hp173, hg175, H⟩ := H
                refine lk (dt := some 56) R13_1_N rfl rfl ⟨_, rfl, .inl ⟨_, rfl, gq hb155 rfl⟩⟩ (ov_ldB rfl underlying4 rfl rfl hp173 hg175) ?_
                refine lk (dt := some 57) R13_1_N rfl rfl ⟨_, rfl, .inl ⟨_, rfl, gq hb155 rfl⟩⟩ (opv_eqB rfl rfl rfl underlying4 rfl rfl) ?_
                refine lk (dt := some 58) R13_1_N rfl rfl rfl (ov_pickT rfl rfl rfl rfl rfl hb155 rfl) ?_
                refine lk (dt := some 59) R13_1_N rfl rfl rfl (opv_move rfl rfl rfl) ?_
                rcases Bool.eq_false_or_eq_true ((x164 == x174)) with hb176 | hb176
                · replace H := cnd_t H hb176
                  obtain ⟨b178, i179, p177, hp180, hv181, H⟩ := H
                  refine lk (dt := some 60) R13_1_N rfl rfl ⟨_, rfl, .inl ⟨_, rfl, gq hb176 rfl⟩⟩ (ov_fldA rfl rfl underlying46 rfl sz26 (by decide) rfl hp180 rfl hv181) ?_
                  obtain ⟨b182, i183, x185, hp184, hg186, H⟩ := H
                  refine lk (dt := some 61) R13_1_N rfl rfl ⟨_, rfl, .inl ⟨_, rfl, gq hb176 rfl⟩⟩ (ov_ldV rfl underlying26 rfl rfl rfl hp184 hg186) ?_
                  obtain ⟨b188, i189, p187, hp190, hv191, H⟩ := H
                  refine lk (dt := some 62) R13_1_N rfl rfl ⟨_, rfl, .inl ⟨_, rfl, gq hb176 rfl⟩⟩ (ov_fldA rfl rfl underlying46 rfl sz26 (by decide) rfl hp190 rfl hv191) ?_
                  obtain ⟨b192, i193, x195, hp194, hg196, H⟩ := H
                  refine lk (dt := some 63) R13_1_N rfl rfl ⟨_, rfl, .inl ⟨_, rfl, gq hb176 rfl⟩⟩ (ov_ldV rfl underlying26 rfl rfl rfl hp194 hg196) ?_
                  refine lk_call (dt := some 64) R13_1_N rfl rfl ⟨_, rfl, .inl ⟨_, rfl, gq hb176 rfl⟩⟩ (opc_of rfl rfl is45 (ma_cons rfl (ma_cons rfl rfl))) H (fun _ _ h => ⟨rfl, h⟩) fun r197 aw198 H => ?_
                  refine lk (dt := some 65) R13_1_N rfl rfl rfl (ov_pickT rfl rfl rfl rfl rfl hb176 rfl) ?_
                  refine lk (dt := some 66) R13_1_N rfl rfl rfl (opv_move rfl rfl rfl) ?_
                  rcases Bool.eq_false_or_eq_true r197 with hb199 | hb199
                  · replace H := cnd_t H hb199
                    obtain ⟨b201, i202, p200, hp203, hv204, H⟩ := H
                    refine lk (dt := some 67) R13_1_N rfl rfl ⟨_, rfl, .inl ⟨_, rfl, gq hb199 rfl⟩⟩ (ov_fldA rfl rfl underlying46 rfl sz25 (by decide) rfl hp203 rfl hv204) ?_
                    obtain ⟨b205, i206, x208, hp207, hg209, H⟩ := H
                    refine lk (dt := some 68) R13_1_N rfl rfl ⟨_, rfl, .inl ⟨_, rfl, gq hb199 rfl⟩⟩ (ov_ldV rfl underlying25 rfl rfl rfl hp207 hg209) ?_
                    obtain ⟨l215, n214, s210, hs211, hq212, hv213, H⟩ := H
                    have hl216 := srcB_len hs211
                    refine lk (dt := some 69) R13_1_N rfl rfl ⟨_, rfl, .inl ⟨_, rfl, gq hb199 rfl⟩⟩ (ov_toS rfl rfl underlying25 underlying9 underlying5 rfl hs211 hq212 hv213) ?_
                    obtain ⟨b218, i219, p217, hp220, hv221, H⟩ := H
                    refine lk (dt := some 70) R13_1_N rfl rfl ⟨_, rfl, .inl ⟨_, rfl, gq hb199 rfl⟩⟩ (ov_fldA rfl rfl underlying46 rfl sz25 (by decide) rfl hp220 rfl hv221) ?_
                    obtain ⟨b222, i223, x225, hp224, hg226, H⟩ := H
                    refine lk (dt := some 71) R13_1_N rfl rfl ⟨_, rfl, .inl ⟨_, rfl, gq hb199 rfl⟩⟩ (ov_ldV rfl underlying25 rfl rfl rfl hp224 hg226) ?_
                    obtain ⟨l232, n231, s227, hs228, hq229, hv230, H⟩ := H
                    have hl233 := srcB_len hs228
                    refine lk (dt := some 72) R13_1_N rfl rfl ⟨_, rfl, .inl ⟨_, rfl, gq hb199 rfl⟩⟩ (ov_toS rfl rfl underlying25 underlying9 underlying5 rfl hs228 hq229 hv230) ?_
                    refine lk (dt := some 73) R13_1_N rfl rfl ⟨_, rfl, .inl ⟨_, rfl, gq hb199 rfl⟩⟩ (opv_eqS rfl rfl rfl rfl rfl) ?_
                    refine lk (dt := some 74) R13_1_N rfl rfl rfl (ov_pickT rfl rfl rfl rfl rfl hb199 rfl) ?_
                    refine lk (dt := some 4) R13_1_N rfl rfl rfl (opv_assign rfl rfl rfl) ?_
                    refine aops_nil ?_
                    exact ago_retE E13_4 (r := (decide (s210 = s227))) (ares_1 rfl (oneT rfl)) rfl H
                  · replace H := cnd_f H hb199
                    refine lk_skip (dt := some 67) R13_1_N rfl rfl ⟨_, rfl, .inl ⟨_, rfl, gq hb199 rfl⟩⟩ ?_
                    refine lk_skip (dt := some 68) R13_1_N rfl rfl ⟨_, rfl, .inl ⟨_, rfl, gq hb199 rfl⟩⟩ ?_
                    refine lk_skip (dt := some 69) R13_1_N rfl rfl ⟨_, rfl, .inl ⟨_, rfl, gq hb199 rfl⟩⟩ ?_
                    refine lk_skip (dt := some 70) R13_1_N rfl rfl ⟨_, rfl, .inl ⟨_, rfl, gq hb199 rfl⟩⟩ ?_
                    refine lk_skip (dt := some 71) R13_1_N rfl rfl ⟨_, rfl, .inl ⟨_, rfl, gq hb199 rfl⟩⟩ ?_
                    refine lk_skip (dt := some 72) R13_1_N rfl rfl ⟨_, rfl, .inl ⟨_, rfl, gq hb199 rfl⟩⟩ ?_
                    refine lk_skip (dt := some 73) R13_1_N rfl rfl ⟨_, rfl, .inl ⟨_, rfl, gq hb199 rfl⟩⟩ ?_
                    refine lk (dt := some 74) R13_1_N rfl rfl rfl (ov_pickF rfl rfl rfl rfl rfl hb199 rfl) ?_
                    refine lk (dt := some 4) R13_1_N rfl rfl rfl (opv_assign rfl rfl rfl) ?_
                    refine aops_nil ?_
                    exact ago_retE E13_4 (r := false) (ares_1 rfl (oneT rfl)) rfl H
                · replace H := cnd_f H hb176
                  refine lk_skip (dt := some 60) R13_1_N rfl rfl ⟨_, rfl, .inl ⟨_, rfl, gq hb176 rfl⟩⟩ ?_
                  refine lk_skip (dt := some 61) R13_1_N rfl rfl ⟨_, rfl, .inl ⟨_, rfl, gq hb176 rfl⟩⟩ ?_
                  refine lk_skip (dt := some 62) R13_1_N rfl rfl ⟨_, rfl, .inl ⟨_, rfl, gq hb176 rfl⟩⟩ ?_
                  refine lk_skip (dt := some 63) R13_1_N rfl rfl ⟨_, rfl, .inl ⟨_, rfl, gq hb176 rfl⟩⟩ ?_
                  refine lk_skip (dt := some 64) R13_1_N rfl rfl ⟨_, rfl, .inl ⟨_, rfl, gq hb176 rfl⟩⟩ ?_
                  refine lk (dt := some 65) R13_1_N rfl rfl rfl (ov_pickF rfl rfl rfl rfl rfl hb176 rfl) ?_
                  refine lk (dt := some 66) R13_1_N rfl rfl rfl (opv_move rfl rfl rfl) ?_
                  refine lk_skip (dt := some 67) R13_1_N rfl rfl ⟨_, rfl, .inl ⟨_, rfl, gq rfl rfl⟩⟩ ?_
                  refine lk_skip (dt := some 68) R13_1_N rfl rfl ⟨_, rfl, .inl ⟨_, rfl, gq rfl rfl⟩⟩ ?_
                  refine lk_skip (dt := some 69) R13_1_N rfl rfl ⟨_, rfl, .inl ⟨_, rfl, gq rfl rfl⟩⟩ ?_
                  refine lk_skip (dt := some 70) R13_1_N rfl rfl ⟨_, rfl, .inl ⟨_, rfl, gq rfl rfl⟩⟩ ?_
                  refine lk_skip (dt := some 71) R13_1_N rfl rfl ⟨_, rfl, .inl ⟨_, rfl, gq rfl rfl⟩⟩ ?_
                  refine lk_skip (dt := some 72) R13_1_N rfl rfl ⟨_, rfl, .inl ⟨_, rfl, gq rfl rfl⟩⟩ ?_
                  refine lk_skip (dt := some 73) R13_1_N rfl rfl ⟨_, rfl, .inl ⟨_, rfl, gq rfl rfl⟩⟩ ?_
                  refine lk (dt := some 74) R13_1_N rfl rfl rfl (ov_pickF rfl rfl rfl rfl rfl rfl rfl) ?_
                  refine lk (dt := some 4) R13_1_N rfl rfl rfl (opv_assign rfl rfl rfl) ?_
                  refine aops_nil ?_
                  exact ago_retE E13_4 (r := false) (ares_1 rfl (oneT rfl)) rfl H
              · replace H := cnd_f H hb155
                refine lk_skip (dt := some 53) R13_1_N rfl rfl ⟨_, rfl, .inl ⟨_, rfl, gq hb155 rfl⟩⟩ ?_
                refine lk_skip (dt := some 54) R13_1_N rfl rfl ⟨_, rfl, .inl ⟨_, rfl, gq hb155 rfl⟩⟩ ?_
                refine lk_skip (dt := some 55) R13_1_N rfl rfl ⟨_, rfl, .inl ⟨_, rfl, gq hb155 rfl⟩⟩ ?_
                refine lk_skip (dt := some 56) R13_1_N rfl rfl ⟨_, rfl, .inl ⟨_, rfl, gq hb155 rfl⟩⟩ ?_
                refine lk_skip (dt := some 57) R13_1_N rfl rfl ⟨_, rfl, .inl ⟨_, rfl, gq hb155 rfl⟩⟩ ?_
                refine lk (dt := some 58) R13_1_N rfl rfl rfl (ov_pickF rfl rfl rfl rfl rfl hb155 rfl) ?_
                refine lk (dt := some 59) R13_1_N rfl rfl rfl (opv_move rfl rfl rfl) ?_
                refine lk_skip (dt := some 60) R13_1_N rfl rfl ⟨_, rfl, .inl ⟨_, rfl, gq rfl rfl⟩⟩ ?_
                refine lk_skip (dt := some 61) R13_1_N rfl rfl ⟨_, rfl, .inl ⟨_, rfl, gq rfl rfl⟩⟩ ?_
                refine lk_skip (dt := some 62) R13_1_N rfl rfl ⟨_, rfl, .inl ⟨_, rfl, gq rfl rfl⟩⟩ ?_
                refine lk_skip (dt := some 63) R13_1_N rfl rfl ⟨_, rfl, .inl ⟨_, rfl, gq rfl rfl⟩⟩ ?_
                refine lk_skip (dt := some 64) R13_1_N rfl rfl ⟨_, rfl, .inl ⟨_, rfl, gq rfl rfl⟩⟩ ?_
                refine lk (dt := some 65) R13_1_N rfl rfl rfl (ov_pickF rfl rfl rfl rfl rfl rfl rfl) ?_
                refine lk (dt := some 66) R13_1_N rfl rfl rfl (opv_move rfl rfl rfl) ?_
                refine lk_skip (dt := some 67) R13_1_N rfl rfl ⟨_, rfl, .inl ⟨_, rfl, gq rfl rfl⟩⟩ ?_
                refine lk_skip (dt := some 68) R13_1_N rfl rfl ⟨_, rfl, .inl ⟨_, rfl, gq rfl rfl⟩⟩ ?_
                refine lk_skip (dt := some 69) R13_1_N rfl rfl ⟨_, rfl, .inl ⟨_, rfl, gq rfl rfl⟩⟩ ?_
                refine lk_skip (dt := some 70) R13_1_N rfl rfl ⟨_, rfl, .inl ⟨_, rfl, gq rfl rfl⟩⟩ ?_
                refine lk_skip (dt := some 71) R13_1_N rfl rfl ⟨_, rfl, .inl ⟨_, rfl, gq rfl rfl⟩⟩ ?_
                refine lk_skip (dt := some 72) R13_1_N rfl rfl ⟨_, rfl, .inl ⟨_, rfl, gq rfl rfl⟩⟩ ?_
                refine lk_skip (dt := some 73) R13_1_N rfl rfl ⟨_, rfl, .inl ⟨_, rfl, gq rfl rfl⟩⟩ ?_
                refine lk (dt := some 74) R13_1_N rfl rfl rfl (ov_pickF rfl rfl rfl rfl rfl rfl rfl) ?_
                refine lk (dt := some 4) R13_1_N rfl rfl rfl (opv_assign rfl rfl rfl) ?_
                refine aops_nil ?_
                exact ago_retE E13_4 (r := false) (ares_1 rfl (oneT rfl)) rfl H
            · replace H := cnd_f H hb134
              refine lk_skip (dt := some 46) R13_1_N rfl rfl ⟨_, rfl, .inl ⟨_, rfl, gq hb134 rfl⟩⟩ ?_
              refine lk_skip (dt := some 47) R13_1_N rfl rfl ⟨_, rfl, .inl ⟨_, rfl, gq hb134 rfl⟩⟩ ?_
              refine lk_skip (dt := some 48) R13_1_N rfl rfl ⟨_, rfl, .inl ⟨_, rfl, gq hb134 rfl⟩⟩ ?_
              refine lk_skip (dt := some 49) R13_1_N rfl rfl ⟨_, rfl, .inl ⟨_, rfl, gq hb134 rfl⟩⟩ ?_
              refine lk_skip (dt := some 50) R13_1_N rfl rfl ⟨_, rfl, .inl ⟨_, rfl, gq hb134 rfl⟩⟩ ?_
              refine lk (dt := some 51) R13_1_N rfl rfl rfl (ov_pickF rfl rfl rfl rfl rfl hb134 rfl) ?_
              refine lk (dt := some 52) R13_1_N rfl rfl rfl (opv_move rfl rfl rfl) ?_
              refine lk_skip (dt := some 53) R13_1_N rfl rfl ⟨_, rfl, .inl ⟨_, rfl, gq rfl rfl⟩⟩ ?_
              refine lk_skip (dt := some 54) R13_1_N rfl rfl ⟨_, rfl, .inl ⟨_, rfl, gq rfl rfl⟩⟩ ?_
              refine lk_skip (dt := some 55) R13_1_N rfl rfl ⟨_, rfl, .inl ⟨_, rfl, gq rfl rfl⟩⟩ ?_
              refine lk_skip (dt := some 56) R13_1_N rfl rfl ⟨_, rfl, .inl ⟨_, rfl, gq rfl rfl⟩⟩ ?_
              refine lk_skip (dt := some 57) R13_1_N rfl rfl ⟨_, rfl, .inl ⟨_, rfl, gq rfl rfl⟩⟩ ?_
              refine lk (dt := some 58) R13_1_N rfl rfl rfl (ov_pickF rfl rfl rfl rfl rfl rfl rfl) ?_
              refine lk (dt := some 59) R13_1_N rfl rfl rfl (opv_move rfl rfl rfl) ?_
              refine lk_skip (dt := some 60) R13_1_N rfl rfl ⟨_, rfl, .inl ⟨_, rfl, gq rfl rfl⟩⟩ ?_
              refine lk_skip (dt := some 61) R13_1_N rfl rfl ⟨_, rfl, .inl ⟨_, rfl, gq rfl rfl⟩⟩ ?_
              refine lk_skip (dt := some 62) R13_1_N rfl rfl ⟨_, rfl, .inl ⟨_, rfl, gq rfl rfl⟩⟩ ?_
              refine lk_skip (dt := some 63) R13_1_N rfl rfl ⟨_, rfl, .inl ⟨_, rfl, gq rfl rfl⟩⟩ ?_
              refine lk_skip (dt := some 64) R13_1_N rfl rfl ⟨_, rfl, .inl ⟨_, rfl, gq rfl rfl⟩⟩ ?_
              refine lk (dt := some 65) R13_1_N rfl rfl rfl (ov_pickF rfl rfl rfl rfl rfl rfl rfl) ?_
              refine lk (dt := some 66) R13_1_N rfl rfl rfl (opv_move rfl rfl rfl) ?_
              refine lk_skip (dt := some 67) R13_1_N rfl rfl ⟨_, rfl, .inl ⟨_, rfl, gq rfl rfl⟩⟩ ?_
              refine lk_skip (dt := some 68) R13_1_N rfl rfl ⟨_, rfl, .inl ⟨_, rfl, gq rfl rfl⟩⟩ ?_
              refine lk_skip (dt := some 69) R13_1_N rfl rfl ⟨_, rfl, .inl ⟨_, rfl, gq rfl rfl⟩⟩ ?_
              refine lk_skip (dt := some 70) R13_1_N rfl rfl ⟨_, rfl, .inl ⟨_, rfl, gq rfl rfl⟩⟩ ?_
              refine lk_skip (dt := some 71) R13_1_N rfl rfl ⟨_, rfl, .inl ⟨_, rfl, gq rfl rfl⟩⟩ ?_
              refine lk_skip (dt := some 72) R13_1_N rfl rfl ⟨_, rfl, .inl ⟨_, rfl, gq rfl rfl⟩⟩ ?_
              refine lk_skip (dt := some 73) R13_1_N rfl rfl ⟨_, rfl, .inl ⟨_, rfl, gq rfl rfl⟩⟩ ?_
              refine lk (dt := some 74) R13_1_N rfl rfl rfl (ov_pickF rfl rfl rfl rfl rfl rfl rfl) ?_
              refine lk (dt := some 4) R13_1_N rfl rfl rfl (opv_assign rfl rfl rfl) ?_
              refine aops_nil ?_
              exact ago_retE E13_4 (r := false) (ares_1 rfl (oneT rfl)) rfl H
          · replace H := cnd_f H hb113
            refine lk_skip (dt := some 39) R13_1_N rfl rfl ⟨_, rfl, .inl ⟨_, rfl, gq hb113 rfl⟩⟩ ?_
            refine lk_skip (dt := some 40) R13_1_N rfl rfl ⟨_, rfl, .inl ⟨_, rfl, gq hb113 rfl⟩⟩ ?_
            refine lk_skip (dt := some 41) R13_1_N rfl rfl ⟨_, rfl, .inl ⟨_, rfl, gq hb113 rfl⟩⟩ ?_
            refine lk_skip (dt := some 42) R13_1_N rfl rfl ⟨_, rfl, .inl ⟨_, rfl, gq hb113 rfl⟩⟩ ?_
            refine lk_skip (dt := some 43) R13_1_N rfl rfl ⟨_, rfl, .inl ⟨_, rfl, gq hb113 rfl⟩⟩ ?_
            refine lk (dt := some 44) R13_1_N rfl rfl rfl (ov_pickF rfl rfl rfl rfl rfl hb113 rfl) ?_
            refine lk (dt := some 45) R13_1_N rfl rfl rfl (opv_move rfl rfl rfl) ?_
            refine lk_skip (dt := some 46) R13_1_N rfl rfl ⟨_, rfl, .inl ⟨_, rfl, gq rfl rfl⟩⟩ ?_
            refine lk_skip (dt := some 47) R13_1_N rfl rfl ⟨_, rfl, .inl ⟨_, rfl, gq rfl rfl⟩⟩ ?_
            refine lk_skip (dt := some 48) R13_1_N rfl rfl ⟨_, rfl, .inl ⟨_, rfl, gq rfl rfl⟩⟩ ?_
            refine lk_skip (dt := some 49) R13_1_N rfl rfl ⟨_, rfl, .inl ⟨_, rfl, gq rfl rfl⟩⟩ ?_
            refine lk_skip (dt := some 50) R13_1_N rfl rfl ⟨_, rfl, .inl ⟨_, rfl, gq rfl rfl⟩⟩ ?_
            refine lk (dt := some 51) R13_1_N rfl rfl rfl (ov_pickF rfl rfl rfl rfl rfl rfl rfl) ?_
            refine lk (dt := some 52) R13_1_N rfl rfl rfl (opv_move rfl rfl rfl) ?_
            refine lk_skip (dt := some 53) R13_1_N rfl rfl ⟨_, rfl, .inl ⟨_, rfl, gq rfl rfl⟩⟩ ?_
            refine lk_skip (dt := some 54) R13_1_N rfl rfl ⟨_, rfl, .inl ⟨_, rfl, gq rfl rfl⟩⟩ ?_
            refine lk_skip (dt := some 55) R13_1_N rfl rfl ⟨_, rfl, .inl ⟨_, rfl, gq rfl rfl⟩⟩ ?_
            refine lk_skip (dt := some 56) R13_1_N rfl rfl ⟨_, rfl, .inl ⟨_, rfl, gq rfl rfl⟩⟩ ?_
            refine lk_skip (dt := some 57) R13_1_N rfl rfl ⟨_, rfl, .inl ⟨_, rfl, gq rfl rfl⟩⟩ ?_
            refine lk (dt := some 58) R13_1_N rfl rfl rfl (ov_pickF rfl rfl rfl rfl rfl rfl rfl) ?_
            refine lk (dt := some 59) R13_1_N rfl rfl rfl (opv_move rfl rfl rfl) ?_
            refine lk_skip (dt := some 60) R13_1_N rfl rfl ⟨_, rfl, .inl ⟨_, rfl, gq rfl rfl⟩⟩ ?_
            refine lk_skip (dt := some 61) R13_1_N rfl rfl ⟨_, rfl, .inl ⟨_, rfl, gq rfl rfl⟩⟩ ?_
            refine lk_skip (dt := some 62) R13_1_N rfl rfl ⟨_, rfl, .inl ⟨_, rfl, gq rfl rfl⟩⟩ ?_
            refine lk_skip (dt := some 63) R13_1_N rfl rfl ⟨_, rfl, .inl ⟨_, rfl, gq rfl rfl⟩⟩ ?_
            refine lk_skip (dt := some 64) R13_1_N rfl rfl ⟨_, rfl, .inl ⟨_, rfl, gq rfl rfl⟩⟩ ?_
            refine lk (dt := some 65) R13_1_N rfl rfl rfl (ov_pickF rfl rfl rfl rfl rfl rfl rfl) ?_
            refine lk (dt := some 66) R13_1_N rfl rfl rfl (opv_move rfl rfl rfl) ?_
            refine lk_skip (dt := some 67) R13_1_N rfl rfl ⟨_, rfl, .inl ⟨_, rfl, gq rfl rfl⟩⟩ ?_
            refine lk_skip (dt := some 68) R13_1_N rfl rfl ⟨_, rfl, .inl ⟨_, rfl, gq rfl rfl⟩⟩ ?_
            refine lk_skip (dt := some 69) R13_1_N rfl rfl ⟨_, rfl, .inl ⟨_, rfl, gq rfl rfl⟩⟩ ?_
            refine lk_skip (dt := some 70) R13_1_N rfl rfl ⟨_, rfl, .inl ⟨_, rfl, gq rfl rfl⟩⟩ ?_
            refine lk_skip (dt := some 71) R13_1_N rfl rfl ⟨_, rfl, .inl ⟨_, rfl, gq rfl rfl⟩⟩ ?_
            refine lk_skip (dt := some 72) R13_1_N rfl rfl ⟨_, rfl, .inl ⟨_, rfl, gq rfl rfl⟩⟩ ?_
            refine lk_skip (dt := some 73) R13_1_N rfl rfl ⟨_, rfl, .inl ⟨_, rfl, gq rfl rfl⟩⟩ ?_
            refine lk (dt := some 74) R13_1_N rfl rfl rfl (ov_pickF rfl rfl rfl rfl rfl rfl rfl) ?_
            refine lk (dt := some 4) R13_1_N rfl rfl rfl (opv_assign rfl rfl rfl) ?_
            refine aops_nil ?_
            exact ago_retE E13_4 (r := false) (ares_1 rfl (oneT rfl)) rfl H
        · replace H := cnd_f H hb92
          refine lk_skip (dt := some 32) R13_1_N rfl rfl ⟨_, rfl, .inl ⟨_, rfl, gq hb92 rfl⟩⟩ ?_
          refine lk_skip (dt := some 33) R13_1_N rfl rfl ⟨_, rfl, .inl ⟨_, rfl, gq hb92 rfl⟩⟩ ?_
          refine lk_skip (dt := some 34) R13_1_N rfl rfl ⟨_, rfl, .inl ⟨_, rfl, gq hb92 rfl⟩⟩ ?_
          refine lk_skip (dt := some 35) R13_1_N rfl rfl ⟨_, rfl, .inl ⟨_, rfl, gq hb92 rfl⟩⟩ ?_
          refine lk_skip (dt := some 36) R13_1_N rfl rfl ⟨_, rfl, .inl ⟨_, rfl, gq hb92 rfl⟩⟩ ?_
          refine lk (dt := some 37) R13_1_N rfl rfl rfl (ov_pickF rfl rfl rfl rfl rfl hb92 rfl) ?_
          refine lk (dt := some 38) R13_1_N rfl rfl rfl (opv_move rfl rfl rfl) ?_
          refine lk_skip (dt := some 39) R13_1_N rfl rfl ⟨_, rfl, .inl ⟨_, rfl, gq rfl rfl⟩⟩ ?_
          refine lk_skip (dt := some 40) R13_1_N rfl rfl ⟨_, rfl, .inl ⟨_, rfl, gq rfl rfl⟩⟩ ?_
          refine lk_skip (dt := some 41) R13_1_N rfl rfl ⟨_, rfl, .inl ⟨_, rfl, gq rfl rfl⟩⟩ ?_
          refine lk_skip (dt := some 42) R13_1_N rfl rfl ⟨_, rfl, .inl ⟨_, rfl, gq rfl rfl⟩⟩ ?_
          refine lk_skip (dt := some 43) R13_1_N rfl rfl ⟨_, rfl, .inl ⟨_, rfl, gq rfl rfl⟩⟩ ?_
          refine lk (dt := some 44) R13_1_N rfl rfl rfl (ov_pickF rfl rfl rfl rfl rfl rfl rfl) ?_
          refine lk (dt := some 45) R13_1_N rfl rfl rfl (opv_move rfl rfl rfl) ?_
          refine lk_skip (dt := some 46) R13_1_N rfl rfl ⟨_, rfl, .inl ⟨_, rfl, gq rfl rfl⟩⟩ ?_
          refine lk_skip (dt := some 47) R13_1_N rfl rfl ⟨_, rfl, .inl ⟨_, rfl, gq rfl rfl⟩⟩ ?_
          refine lk_skip (dt := some 48) R13_1_N rfl rfl ⟨_, rfl, .inl ⟨_, rfl, gq rfl rfl⟩⟩ ?_
          refine lk_skip (dt := some 49) R13_1_N rfl rfl ⟨_, rfl, .inl ⟨_, rfl, gq rfl rfl⟩⟩ ?_
          refine lk_skip (dt := some 50) R13_1_N rfl rfl ⟨_, rfl, .inl ⟨_, rfl, gq rfl rfl⟩⟩ ?_
          refine lk (dt := some 51) R13_1_N rfl rfl rfl (ov_pickF rfl rfl rfl rfl rfl rfl rfl) ?_
          refine lk (dt := some 52) R13_1_N rfl rfl rfl (opv_move rfl rfl rfl) ?_
          refine lk_skip (dt := some 53) R13_1_N rfl rfl ⟨_, rfl, .inl ⟨_, rfl, gq rfl rfl⟩⟩ ?_
          refine lk_skip (dt := some 54) R13_1_N rfl rfl ⟨_, rfl, .inl ⟨_, rfl, gq rfl rfl⟩⟩ ?_
          refine lk_skip (dt := some 55) R13_1_N rfl rfl ⟨_, rfl, .inl ⟨_, rfl, gq rfl rfl⟩⟩ ?_
          refine lk_skip (dt := some 56) R13_1_N rfl rfl ⟨_, rfl, .inl ⟨_, rfl, gq rfl rfl⟩⟩ ?_
          refine lk_skip (dt := some 57) R13_1_N rfl rfl ⟨_, rfl, .inl ⟨_, rfl, gq rfl rfl⟩⟩ ?_
          refine lk (dt := some 58) R13_1_N rfl rfl rfl (ov_pickF rfl rfl rfl rfl rfl rfl rfl) ?_
          refine lk (dt := some 59) R13_1_N rfl rfl rfl (opv_move rfl rfl rfl) ?_
          refine lk_skip (dt := some 60) R13_1_N rfl rfl ⟨_, rfl, .inl ⟨_, rfl, gq rfl rfl⟩⟩ ?_
          refine lk_skip (dt := some 61) R13_1_N rfl rfl ⟨_, rfl, .inl ⟨_, rfl, gq rfl rfl⟩⟩ ?_
          refine lk_skip (dt := some 62) R13_1_N rfl rfl ⟨_, rfl, .inl ⟨_, rfl, gq rfl rfl⟩⟩ ?_
          refine lk_skip (dt := some 63) R13_1_N rfl rfl ⟨_, rfl, .inl ⟨_, rfl, gq rfl rfl⟩⟩ ?_
          refine lk_skip (dt := some 64) R13_1_N rfl rfl ⟨_, rfl, .inl ⟨_, rfl, gq rfl rfl⟩⟩ ?_
          refine lk (dt := some 65) R13_1_N rfl rfl rfl (ov_pickF rfl rfl rfl rfl rfl rfl rfl) ?_
          refine lk (dt := some 66) R13_1_N rfl rfl rfl (opv_move rfl rfl rfl) ?_
          refine lk_skip (dt := some 67) R13_1_N rfl rfl ⟨_, rfl, .inl ⟨_, rfl, gq rfl rfl⟩⟩ ?_
          refine lk_skip (dt := some 68) R13_1_N rfl rfl ⟨_, rfl, .inl ⟨_, rfl, gq rfl rfl⟩⟩ ?_
          refine lk_skip (dt := some 69) R13_1_N rfl rfl ⟨_, rfl, .inl ⟨_, rfl, gq rfl rfl⟩⟩ ?_
          refine lk_skip (dt := some 70) R13_1_N rfl rfl ⟨_, rfl, .inl ⟨_, rfl, gq rfl rfl⟩⟩ ?_
          refine lk_skip (dt := some 71) R13_1_N rfl rfl ⟨_, rfl, .inl ⟨_, rfl, gq rfl rfl⟩⟩ ?_
          refine lk_skip (dt := some 72) R13_1_N rfl rfl ⟨_, rfl, .inl ⟨_, rfl, gq rfl rfl⟩⟩ ?_
          refine lk_skip (dt := some 73) R13_1_N rfl rfl ⟨_, rfl, .inl ⟨_, rfl, gq rfl rfl⟩⟩ ?_
          refine lk (dt := some 74) R13_1_N rfl rfl rfl (ov_pickF rfl rfl rfl rfl rfl rfl rfl) ?_
          refine lk (dt := some 4) R13_1_N rfl rfl rfl (opv_assign rfl rfl rfl) ?_
          refine aops_nil ?_
          exact ago_retE E13_4 (r := false) (ares_1 rfl (oneT rfl)) rfl H
      · replace H := cnd_f H hb71
        refine lk_skip (dt := some 25) R13_1_N rfl rfl ⟨_, rfl, .inl ⟨_, rfl, gq hb71 rfl⟩⟩ ?_
        refine lk_skip (dt := some 26) R13_1_N rfl rfl ⟨_, rfl, .inl ⟨_, rfl, gq hb71 rfl⟩⟩ ?_
        refine lk_skip (dt := some 27) R13_1_N rfl rfl ⟨_, rfl, .inl ⟨_, rfl, gq hb71 rfl⟩⟩ ?_
        refine lk_skip (dt := some 28) R13_1_N rfl rfl ⟨_, rfl, .inl ⟨_, rfl, gq hb71 rfl⟩⟩ ?_
        refine lk_skip (dt := some 29) R13_1_N rfl rfl ⟨_, rfl, .inl ⟨_, rfl, gq hb71 rfl⟩⟩ ?_
        refine lk (dt := some 30) R13_1_N rfl rfl rfl (ov_pickF rfl rfl rfl rfl rfl hb71 rfl) ?_
        refine lk (dt := some 31) R13_1_N rfl rfl rfl (opv_move rfl rfl rfl) ?_
        refine lk_skip (dt := some 32) R13_1_N rfl rfl ⟨_, rfl, .inl ⟨_, rfl, gq rfl rfl⟩⟩ ?_
        refine lk_skip (dt := some 33) R13_1_N rfl rfl ⟨_, rfl, .inl ⟨_, rfl, gq rfl rfl⟩⟩ ?_
        refine lk_skip (dt := some 34) R13_1_N rfl rfl ⟨_, rfl, .inl ⟨_, rfl, gq rfl rfl⟩⟩ ?_
        refine lk_skip (dt := some 35) R13_1_N rfl rfl ⟨_, rfl, .inl ⟨_, rfl, gq rfl rfl⟩⟩ ?_
        refine lk_skip (dt := some 36) R13_1_N rfl rfl ⟨_, rfl, .inl ⟨_, rfl, gq rfl rfl⟩⟩ ?_
        refine lk (dt := some 37) R13_1_N rfl rfl rfl (ov_pickF rfl rfl rfl rfl rfl rfl rfl) ?_
        refine lk (dt := some 38) R13_1_N rfl rfl rfl (opv_move rfl rfl rfl) ?_
        refine lk_skip (dt := some 39) R13_1_N rfl rfl ⟨_, rfl, .inl ⟨_, rfl, gq rfl rfl⟩⟩ ?_
        refine lk_skip (dt := some 40) R13_1_N rfl rfl ⟨_, rfl, .inl ⟨_, rfl, gq rfl rfl⟩⟩ ?_
        refine lk_skip (dt := some 41) R13_1_N rfl rfl ⟨_, rfl, .inl ⟨_, rfl, gq rfl rfl⟩⟩ ?_
        refine lk_skip (dt := some 42) R13_1_N rfl rfl ⟨_, rfl, .inl ⟨_, rfl, gq rfl rfl⟩⟩ ?_
        refine lk_skip (dt := some 43) R13_1_N rfl rfl ⟨_, rfl, .inl ⟨_, rfl, gq rfl rfl⟩⟩ ?_
        refine lk (dt := some 44) R13_1_N rfl rfl rfl (ov_pickF rfl rfl rfl rfl rfl rfl rfl) ?_
        refine lk (dt := some 45) R13_1_N rfl rfl rfl (opv_move rfl rfl rfl) ?_
        refine lk_skip (dt := some 46) R13_1_N rfl rfl ⟨_, rfl, .inl ⟨_, rfl, gq rfl rfl⟩⟩ ?_
        refine lk_skip (dt := some 47) R13_1_N rfl rfl ⟨_, rfl, .inl ⟨_, rfl, gq rfl rfl⟩⟩ ?_
        refine lk_skip (dt := some 48) R13_1_N rfl rfl ⟨_, rfl, .inl ⟨_, rfl, gq rfl rfl⟩⟩ ?_
        refine lk_skip (dt := some 49) R13_1_N rfl rfl ⟨_, rfl, .inl ⟨_, rfl, gq rfl rfl⟩⟩ ?_
        refine lk_skip (dt := some 50) R13_1_N rfl rfl ⟨_, rfl, .inl ⟨_, rfl, gq rfl rfl⟩⟩ ?_
        refine lk (dt := some 51) R13_1_N rfl rfl rfl (ov_pickF rfl rfl rfl rfl rfl rfl rfl) ?_
        refine lk (dt := some 52) R13_1_N rfl rfl rfl (opv_move rfl rfl rfl) ?_
        refine lk_skip (dt := some 53) R13_1_N rfl rfl ⟨_, rfl, .inl ⟨_, rfl, gq rfl rfl⟩⟩ ?_
        refine lk_skip (dt := some 54) R13_1_N rfl rfl ⟨_, rfl, .inl ⟨_, rfl, gq rfl rfl⟩⟩ ?_
        refine lk_skip (dt := some 55) R13_1_N rfl rfl ⟨_, rfl, .inl ⟨_, rfl, gq rfl rfl⟩⟩ ?_
        refine lk_skip (dt := some 56) R13_1_N rfl rfl ⟨_, rfl, .inl ⟨_, rfl, gq rfl rfl⟩⟩ ?_
        refine lk_skip (dt := some 57) R13_1_N rfl rfl ⟨_, rfl, .inl ⟨_, rfl, gq rfl rfl⟩⟩ ?_
        refine lk (dt := some 58) R13_1_N rfl rfl rfl (ov_pickF rfl rfl rfl rfl rfl rfl rfl) ?_
        refine lk (dt := some 59) R13_1_N rfl rfl rfl (opv_move rfl rfl rfl) ?_
        refine lk_skip (dt := some 60) R13_1_N rfl rfl ⟨_, rfl, .inl ⟨_, rfl, gq rfl rfl⟩⟩ ?_
        refine lk_skip (dt := some 61) R13_1_N rfl rfl ⟨_, rfl, .inl ⟨_, rfl, gq rfl rfl⟩⟩ ?_
        refine lk_skip (dt := some 62) R13_1_N rfl rfl ⟨_, rfl, .inl ⟨_, rfl, gq rfl rfl⟩⟩ ?_
        refine lk_skip (dt := some 63) R13_1_N rfl rfl ⟨_, rfl, .inl ⟨_, rfl, gq rfl rfl⟩⟩ ?_
        refine lk_skip (dt := some 64) R13_1_N rfl rfl ⟨_, rfl, .inl ⟨_, rfl, gq rfl rfl⟩⟩ ?_
        refine lk (dt := some 65) R13_1_N rfl rfl rfl (ov_pickF rfl rfl rfl rfl rfl rfl rfl) ?_
        refine lk (dt := some 66) R13_1_N rfl rfl rfl (opv_move rfl rfl rfl) ?_
        refine lk_skip (dt := some 67) R13_1_N rfl rfl ⟨_, rfl, .inl ⟨_, rfl, gq rfl rfl⟩⟩ ?_
        refine lk_skip (dt := some 68) R13_1_N rfl rfl ⟨_, rfl, .inl ⟨_, rfl, gq rfl rfl⟩⟩ ?_
        refine lk_skip (dt := some 69) R13_1_N rfl rfl ⟨_, rfl, .inl ⟨_, rfl, gq rfl rfl⟩⟩ ?_
        refine lk_skip (dt := some 70) R13_1_N rfl rfl ⟨_, rfl, .inl ⟨_, rfl, gq rfl rfl⟩⟩ ?_
        refine lk_skip (dt := some 71) R13_1_N rfl rfl ⟨_, rfl, .inl ⟨_, rfl, gq rfl rfl⟩⟩ ?_
        refine lk_skip (dt := some 72) R13_1_N rfl rfl ⟨_, rfl, .inl ⟨_, rfl, gq rfl rfl⟩⟩ ?_
        refine lk_skip (dt := some 73) R13_1_N rfl rfl ⟨_, rfl, .inl ⟨_, rfl, gq rfl rfl⟩⟩ ?_
        refine lk (dt := some 74) R13_1_N rfl rfl rfl (ov_pickF rfl rfl rfl rfl rfl rfl rfl) ?_
        refine lk (dt := some 4) R13_1_N rfl rfl rfl (opv_assign rfl rfl rfl) ?_
        refine aops_nil ?_
        exact ago_retE E13_4 (r := false) (ares_1 rfl (oneT rfl)) rfl H
    · replace H := cnd_f H hb50
      refine lk_skip (dt := some 18) R13_1_N rfl rfl ⟨_, rfl, .inl ⟨_, rfl, gq hb50 rfl⟩⟩ ?_
      refine lk_skip (dt := some 19) R13_1_N rfl rfl ⟨_, rfl, .inl ⟨_, rfl, gq hb50 rfl⟩⟩ ?_
      refine lk_skip (dt := some 20) R13_1_N rfl rfl ⟨_, rfl, .inl ⟨_, rfl, gq hb50 rfl⟩⟩ ?_
      refine lk_skip (dt := some 21) R13_1_N rfl rfl ⟨_, rfl, .inl ⟨_, rfl, gq hb50 rfl⟩⟩ ?_
      refine lk_skip (dt := some 22) R13_1_N rfl rfl ⟨_, rfl, .inl ⟨_, rfl, gq hb50 rfl⟩⟩ ?_
      refine lk (dt := some 23) R13_1_N rfl rfl rfl (ov_pickF rfl rfl rfl rfl rfl hb50 rfl) ?_
      refine lk (dt := some 24) R13_1_N rfl rfl rfl (opv_move rfl rfl rfl) ?_
      refine lk_skip (dt := some 25) R13_1_N rfl rfl ⟨_, rfl, .inl ⟨_, rfl, gq rfl rfl⟩⟩ ?_
      refine lk_skip (dt := some 26) R13_1_N rfl rfl ⟨_, rfl, .inl ⟨_, rfl, gq rfl rfl⟩⟩ ?_
      refine lk_skip (dt := some 27) R13_1_N rfl rfl ⟨_, rfl, .inl ⟨_, rfl, gq rfl rfl⟩⟩ ?_
      refine lk_skip (dt := some 28) R13_1_N rfl rfl ⟨_, rfl, .inl ⟨_, rfl, gq rfl rfl⟩⟩ ?_
      refine lk_skip (dt := some 29) R13_1_N rfl rfl ⟨_, rfl, .inl ⟨_, rfl, gq rfl rfl⟩⟩ ?_
      refine lk (dt := some 30) R13_1_N rfl rfl rfl (ov_pickF rfl rfl rfl rfl rfl rfl rfl) ?_
      refine lk (dt := some 31) R13_1_N rfl rfl rfl (opv_move rfl rfl rfl) ?_
      refine lk_skip (dt := some 32) R13_1_N rfl rfl ⟨_, rfl, .inl ⟨_, rfl, gq rfl rfl⟩⟩ ?_
      refine lk_skip (dt := some 33) R13_1_N rfl rfl ⟨_, rfl, .inl ⟨_, rfl, gq rfl rfl⟩⟩ ?_
      refine lk_skip (dt := some 34) R13_1_N rfl rfl ⟨_, rfl, .inl ⟨_, rfl, gq rfl rfl⟩⟩ ?_
      refine lk_skip (dt := some 35) R13_1_N rfl rfl ⟨_, rfl, .inl ⟨_, rfl, gq rfl rfl⟩⟩ ?_
      refine lk_skip (dt := some 36) R13_1_N rfl rfl ⟨_, rfl, .inl ⟨_, rfl, gq rfl rfl⟩⟩ ?_
      refine lk (dt := some 37) R13_1_N rfl rfl rfl (ov_pickF rfl rfl rfl rfl rfl rfl rfl) ?_
      refine lk (dt := some 38) R13_1_N rfl rfl rfl (opv_move rfl rfl rfl) ?_
      refine lk_skip (dt := some 39) R13_1_N rfl rfl ⟨_, rfl, .inl ⟨_, rfl, gq rfl rfl⟩⟩ ?_
      refine lk_skip (dt := some 40) R13_1_N rfl rfl ⟨_, rfl, .inl ⟨_, rfl, gq rfl rfl⟩⟩ ?_
      refine lk_skip (dt := some 41) R13_1_N rfl rfl ⟨_, rfl, .inl ⟨_, rfl, gq rfl rfl⟩⟩ ?_
      refine lk_skip (dt := some 42) R13_1_N rfl rfl ⟨_, rfl, .inl ⟨_, rfl, gq rfl rfl⟩⟩ ?_
      refine lk_skip (dt := some 43) R13_1_N rfl rfl ⟨_, rfl, .inl ⟨_, rfl, gq rfl rfl⟩⟩ ?_
      refine lk (dt := some 44) R13_1_N rfl rfl rfl (ov_pickF rfl rfl rfl rfl rfl rfl rfl) ?_
      refine lk (dt := some 45) R13_1_N rfl rfl rfl (opv_move rfl rfl rfl) ?_
      refine lk_skip (dt := some 46) R13_1_N rfl rfl ⟨_, rfl, .inl ⟨_, rfl, gq rfl rfl⟩⟩ ?_
      refine lk_skip (dt := some 47) R13_1_N rfl rfl ⟨_, rfl, .inl ⟨_, rfl, gq rfl rfl⟩⟩ ?_
      refine lk_skip (dt := some 48) R13_1_N rfl rfl ⟨_, rfl, .inl ⟨_, rfl, gq rfl rfl⟩⟩ ?_
      refine lk_skip (dt := some 49) R13_1_N rfl rfl ⟨_, rfl, .inl ⟨_, rfl, gq rfl rfl⟩⟩ ?_
      refine lk_skip (dt := some 50) R13_1_N rfl rfl ⟨_, rfl, .inl ⟨_, rfl, gq rfl rfl⟩⟩ ?_
      refine lk (dt := some 51) R13_1_N rfl rfl rfl (ov_pickF rfl rfl rfl rfl rfl rfl rfl) ?_
      refine lk (dt := some 52) R13_1_N rfl rfl rfl (opv_move rfl rfl rfl) ?_
      refine lk_skip (dt := some 53) R13_1_N rfl rfl ⟨_, rfl, .inl ⟨_, rfl, gq rfl rfl⟩⟩ ?_
      refine lk_skip (dt := some 54) R13_1_N rfl rfl ⟨_, rfl, .inl ⟨_, rfl, gq rfl rfl⟩⟩ ?_
      refine lk_skip (dt := some 55) R13_1_N rfl rfl ⟨_, rfl, .inl ⟨_, rfl, gq rfl rfl⟩⟩ ?_
      refine lk_skip (dt := some 56) R13_1_N rfl rfl ⟨_, rfl, .inl ⟨_, rfl, gq rfl rfl⟩⟩ ?_
      refine lk_skip (dt := some 57) R13_1_N rfl rfl ⟨_, rfl, .inl ⟨_, rfl, gq rfl rfl⟩⟩ ?_
      refine lk (dt := some 58) R13_1_N rfl rfl rfl (ov_pickF rfl rfl rfl rfl rfl rfl rfl) ?_
      refine lk (dt := some 59) R13_1_N rfl rfl rfl (opv_move rfl rfl rfl) ?_
      refine lk_skip (dt := some 60) R13_1_N rfl rfl ⟨_, rfl, .inl ⟨_, rfl, gq rfl rfl⟩⟩ ?_
      refine lk_skip (dt := some 61) R13_1_N rfl rfl ⟨_, rfl, .inl ⟨_, rfl, gq rfl rfl⟩⟩ ?_
      refine lk_skip (dt := some 62) R13_1_N rfl rfl ⟨_, rfl, .inl ⟨_, rfl, gq rfl rfl⟩⟩ ?_
      refine lk_skip (dt := some 63) R13_1_N rfl rfl ⟨_, rfl, .inl ⟨_, rfl, gq rfl rfl⟩⟩ ?_
      refine lk_skip (dt := some 64) R13_1_N rfl rfl ⟨_, rfl, .inl ⟨_, rfl, gq rfl rfl⟩⟩ ?_
      refine lk (dt := some 65) R13_1_N rfl rfl rfl (ov_pickF rfl rfl rfl rfl rfl rfl rfl) ?_
      refine lk (dt := some 66) R13_1_N rfl rfl rfl (opv_move rfl rfl rfl) ?_
      refine lk_skip (dt := some 67) R13_1_N rfl rfl ⟨_, rfl, .inl ⟨_, rfl, gq rfl rfl⟩⟩ ?_
      refine lk_skip (dt := some 68) R13_1_N rfl rfl ⟨_, rfl, .inl ⟨_, rfl, gq rfl rfl⟩⟩ ?_
      refine lk_skip (dt := some 69) R13_1_N rfl rfl ⟨_, rfl, .inl ⟨_, rfl, gq rfl rfl⟩⟩ ?_
      refine lk_skip (dt := some 70) R13_1_N rfl rfl ⟨_, rfl, .inl ⟨_, rfl, gq rfl rfl⟩⟩ ?_
      refine lk_skip (dt := some 71) R13_1_N rfl rfl ⟨_, rfl, .inl ⟨_, rfl, gq rfl rfl⟩⟩ ?_
      refine lk_skip (dt := some 72) R13_1_N rfl rfl ⟨_, rfl, .inl ⟨_, rfl, gq rfl rfl⟩⟩ ?_
      refine lk_skip (dt := some 73) R13_1_N rfl rfl ⟨_, rfl, .inl ⟨_, rfl, gq rfl rfl⟩⟩ ?_
      refine lk (dt := some 74) R13_1_N rfl rfl rfl (ov_pickF rfl rfl rfl rfl rfl rfl rfl) ?_
      refine lk (dt := some 4) R13_1_N rfl rfl rfl (opv_assign rfl rfl rfl) ?_
      refine aops_nil ?_
      exact ago_retE E13_4 (r := false) (ares_1 rfl (oneT rfl)) rfl H
  · replace H := cnd_f H hb29
    refine lk_skip (dt := some 11) R13_1_N rfl rfl ⟨_, rfl, .inl ⟨_, rfl, gq hb29 rfl⟩⟩ ?_
    refine lk_skip (dt := some 12) R13_1_N rfl rfl ⟨_, rfl, .inl ⟨_, rfl, gq hb29 rfl⟩⟩ ?_
    refine lk_skip (dt := some 13) R13_1_N rfl rfl ⟨_, rfl, .inl ⟨_, rfl, gq hb29 rfl⟩⟩ ?_
    refine lk_skip (dt := some 14) R13_1_N rfl rfl ⟨_, rfl, .inl ⟨_, rfl, gq hb29 rfl⟩⟩ ?_
    refine lk_skip (dt := some 15) R13_1_N rfl rfl ⟨_, rfl, .inl ⟨_, rfl, gq hb29 rfl⟩⟩ ?_
    refine lk (dt := some 16) R13_1_N rfl rfl rfl (ov_pickF rfl rfl rfl rfl rfl hb29 rfl) ?_
    refine lk (dt := some 17) R13_1_N rfl rfl rfl (opv_move rfl rfl rfl) ?_
    refine lk_skip (dt := some 18) R13_1_N rfl rfl ⟨_, rfl, .inl ⟨_, rfl, gq rfl rfl⟩⟩ ?_
    refine lk_skip (dt := some 19) R13_1_N rfl rfl ⟨_, rfl, .inl ⟨_, rfl, gq rfl rfl⟩⟩ ?_
    refine lk_skip (dt := some 20) R13_1_N rfl rfl ⟨_, rfl, .inl ⟨_, rfl, gq rfl rfl⟩⟩ ?_
    refine lk_skip (dt := some 21) R13_1_N rfl rfl ⟨_, rfl, .inl ⟨_, rfl, gq rfl rfl⟩⟩ ?_
    refine lk_skip (dt := some 22) R13_1_N rfl rfl ⟨_, rfl, .inl ⟨_, rfl, gq rfl rfl⟩⟩ ?_
    refine lk (dt := some 23) R13_1_N rfl rfl rfl (ov_pickF rfl rfl rfl rfl rfl rfl rfl) ?_
    refine lk (dt := some 24) R13_1_N rfl rfl rfl (opv_move rfl rfl rfl) ?_
    refine lk_skip (dt := some 25) R13_1_N rfl rfl ⟨_, rfl, .inl ⟨_, rfl, gq rfl rfl⟩⟩ ?_
    refine lk_skip (dt := some 26) R13_1_N rfl rfl ⟨_, rfl, .inl ⟨_, rfl, gq rfl rfl⟩⟩ ?_
    refine lk_skip (dt := some 27) R13_1_N rfl rfl ⟨_, rfl, .inl ⟨_, rfl, gq rfl rfl⟩⟩ ?_
    refine lk_skip (dt := some 28) R13_1_N rfl rfl ⟨_, rfl, .inl ⟨_, rfl, gq rfl rfl⟩⟩ ?_
    refine lk_skip (dt := some 29) R13_1_N rfl rfl ⟨_, rfl, .inl ⟨_, rfl, gq rfl rfl⟩⟩ ?_
    refine lk (dt := some 30) R13_1_N rfl rfl rfl (ov_pickF rfl rfl rfl rfl rfl rfl rfl) ?_
    refine lk (dt := some 31) R13_1_N rfl rfl rfl (opv_move rfl rfl rfl) ?_
    refine lk_skip (dt := some 32) R13_1_N rfl rfl ⟨_, rfl, .inl ⟨_, rfl, gq rfl rfl⟩⟩ ?_
    refine lk_skip (dt := some 33) R13_1_N rfl rfl ⟨_, rfl, .inl ⟨_, rfl, gq rfl rfl⟩⟩ ?_
    refine lk_skip (dt := some 34) R13_1_N rfl rfl ⟨_, rfl, .inl ⟨_, rfl, gq rfl rfl⟩⟩ ?_
    refine lk_skip (dt := some 35) R13_1_N rfl rfl ⟨_, rfl, .inl ⟨_, rfl, gq rfl rfl⟩⟩ ?_
    refine lk_skip (dt := some 36) R13_1_N rfl rfl ⟨_, rfl, .inl ⟨_, rfl, gq rfl rfl⟩⟩ ?_
    refine lk (dt := some 37) R13_1_N rfl rfl rfl (ov_pickF rfl rfl rfl rfl rfl rfl rfl) ?_
    refine lk (dt := some 38) R13_1_N rfl rfl rfl (opv_move rfl rfl rfl) ?_
    refine lk_skip (dt := some 39) R13_1_N rfl rfl ⟨_, rfl, .inl ⟨_, rfl, gq rfl rfl⟩⟩ ?_
    refine lk_skip (dt := some 40) R13_1_N rfl rfl ⟨_, rfl, .inl ⟨_, rfl, gq rfl rfl⟩⟩ ?_
    refine lk_skip (dt := some 41) R13_1_N rfl rfl ⟨_, rfl, .inl ⟨_, rfl, gq rfl rfl⟩⟩ ?_
    refine lk_skip (dt := some 42) R13_1_N rfl rfl ⟨_, rfl, .inl ⟨_, rfl, gq rfl rfl⟩⟩ ?_
    refine lk_skip (dt := some 43) R13_1_N rfl rfl ⟨_, rfl, .inl ⟨_, rfl, gq rfl rfl⟩⟩ ?_
    refine lk (dt := some 44) R13_1_N rfl rfl rfl (ov_pickF rfl rfl rfl rfl rfl rfl rfl) ?_
    refine lk (dt := some 45) R13_1_N rfl rfl rfl (opv_move rfl rfl rfl) ?_
    refine lk_skip (dt := some 46) R13_1_N rfl rfl ⟨_, rfl, .inl ⟨_, rfl, gq rfl rfl⟩⟩ ?_
    refine lk_skip (dt := some 47) R13_1_N rfl rfl ⟨_, rfl, .inl ⟨_, rfl, gq rfl rfl⟩⟩ ?_
    refine lk_skip (dt := some 48) R13_1_N rfl rfl ⟨_, rfl, .inl ⟨_, rfl, gq rfl rfl⟩⟩ ?_
    refine lk_skip (dt := some 49) R13_1_N rfl rfl ⟨_, rfl, .inl ⟨_, rfl, gq rfl rfl⟩⟩ ?_
    refine lk_skip (dt := some 50) R13_1_N rfl rfl ⟨_, rfl, .inl ⟨_, rfl, gq rfl rfl⟩⟩ ?_
    refine lk (dt := some 51) R13_1_N rfl rfl rfl (ov_pickF rfl rfl rfl rfl rfl rfl rfl) ?_
    refine lk (dt := some 52) R13_1_N rfl rfl rfl (opv_move rfl rfl rfl) ?_
    refine lk_skip (dt := some 53) R13_1_N rfl rfl ⟨_, rfl, .inl ⟨_, rfl, gq rfl rfl⟩⟩ ?_
    refine lk_skip (dt := some 54) R13_1_N rfl rfl ⟨_, rfl, .inl ⟨_, rfl, gq rfl rfl⟩⟩ ?_
    refine lk_skip (dt := some 55) R13_1_N rfl rfl ⟨_, rfl, .inl ⟨_, rfl, gq rfl rfl⟩⟩ ?_
    refine lk_skip (dt := some 56) R13_1_N rfl rfl ⟨_, rfl, .inl ⟨_, rfl, gq rfl rfl⟩⟩ ?_
    refine lk_skip (dt := some 57) R13_1_N rfl rfl ⟨_, rfl, .inl ⟨_, rfl, gq rfl rfl⟩⟩ ?_
    refine lk (dt := some 58) R13_1_N rfl rfl rfl (ov_pickF rfl rfl rfl rfl rfl rfl rfl) ?_
    refine lk (dt := some 59) R13_1_N rfl rfl rfl (opv_move rfl rfl rfl) ?_
    refine lk_skip (dt := some 60) R13_1_N rfl rfl ⟨_, rfl, .inl ⟨_, rfl, gq rfl rfl⟩⟩ ?_
    refine lk_skip (dt := some 61) R13_1_N rfl rfl ⟨_, rfl, .inl ⟨_, rfl, gq rfl rfl⟩⟩ ?_
    refine lk_skip (dt := some 62) R13_1_N rfl rfl ⟨_, rfl, .inl ⟨_, rfl, gq rfl rfl⟩⟩ ?_
    refine lk_skip (dt := some 63) R13_1_N rfl rfl ⟨_, rfl, .inl ⟨_, rfl, gq rfl rfl⟩⟩ ?_
    refine lk_skip (dt := some 64) R13_1_N rfl rfl ⟨_, rfl, .inl ⟨_, rfl, gq rfl rfl⟩⟩ ?_
    refine lk (dt := some 65) R13_1_N rfl rfl rfl (ov_pickF rfl rfl rfl rfl rfl rfl rfl) ?_
    refine lk (dt := some 66) R13_1_N rfl rfl rfl (opv_move rfl rfl rfl) ?_
    refine lk_skip (dt := some 67) R13_1_N rfl rfl ⟨_, rfl, .inl ⟨_, rfl, gq rfl rfl⟩⟩ ?_
    refine lk_skip (dt := some 68) R13_1_N rfl rfl ⟨_, rfl, .inl ⟨_, rfl, gq rfl rfl⟩⟩ ?_
    refine lk_skip (dt := some 69) R13_1_N rfl rfl ⟨_, rfl, .inl ⟨_, rfl, gq rfl rfl⟩⟩ ?_
    refine lk_skip (dt := some 70) R13_1_N rfl rfl ⟨_, rfl, .inl ⟨_, rfl, gq rfl rfl⟩⟩ ?_
    refine lk_skip (dt := some 71) R13_1_N rfl rfl ⟨_, rfl, .inl ⟨_, rfl, gq rfl rfl⟩⟩ ?_
    refine lk_skip (dt := some 72) R13_1_N rfl rfl ⟨_, rfl, .inl ⟨_, rfl, gq rfl rfl⟩⟩ ?_
    refine lk_skip (dt := some 73) R13_1_N rfl rfl ⟨_, rfl, .inl ⟨_, rfl, gq rfl rfl⟩⟩ ?_
    refine lk (dt := some 74) R13_1_N rfl rfl rfl (ov_pickF rfl rfl rfl rfl rfl rfl rfl) ?_
    refine lk (dt := some 4) R13_1_N rfl rfl rfl (opv_assign rfl rfl rfl) ?_
    refine aops_nil ?_
    exact ago_retE E13_4 (r := false) (ares_1 rfl (oneT rfl)) rfl H
theorem F13_ok {Q : Bool → AW → Prop} {E : List PanicEntry → AW → Prop} (a_0_0 : Int) (a_0_1 : Int) (a_0_2 : Int) (a_0_3 : Int) (a_0_4 : Int) (a_0_5 : Int) (a_0_6 : Int) (a_0_7 : Bool) (a_0_8 : Value) (a_0_9 : Value) (b_1_0 : Int) (b_1_1 : Int) (b_1_2 : Int) (b_1_3 : Int) (b_1_4 : Int) (b_1_5 : Int) (b_1_6 : Int) (b_1_7 : Bool) (b_1_8 : Value) (b_1_9 : Value) (aw : AW) (H : S13_0 Q E a_0_0 a_0_1 a_0_2 a_0_3 a_0_4 a_0_5 a_0_6 a_0_7 a_0_8 a_0_9 b_1_0 b_1_1 b_1_2 b_1_3 b_1_4 b_1_5 b_1_6 b_1_7 b_1_8 b_1_9 aw) : CallP prog 13 [.agg #[.int .u8 a_0_0, .int .i64 a_0_1, .int .i64 a_0_2, .int .u64 a_0_3, .int .u64 a_0_4, .int .u64 a_0_5, .int .u64 a_0_6, .bool a_0_7, a_0_8, a_0_9], .agg #[.int .u8 b_1_0, .int .i64 b_1_1, .int .i64 b_1_2, .int .u64 b_1_3, .int .u64 b_1_4, .int .u64 b_1_5, .int .u64 b_1_6, .bool b_1_7, b_1_8, b_1_9]] aw sh13 Q E :=
  callP_of func13 C13_is rfl (Nat.le_of_ble_eq_true rfl) (S13_0_ok Q E _ a_0_0 a_0_1 a_0_2 a_0_3 a_0_4 a_0_5 a_0_6 a_0_7 a_0_8 a_0_9 b_1_0 b_1_1 b_1_2 b_1_3 b_1_4 b_1_5 b_1_6 b_1_7 b_1_8 b_1_9 aw rfl rfl H)
def C14_0 : Code := bodyOf f14
theorem C14_is : f14.body = some C14_0 := by kernel_rfl
def C14_1 : Code := cl C14_0
def R14_0 : Array Oper := regOps C14_1
def C14_2 : Code := cr C14_0
def C14_3 : Code := cl C14_2
def R14_1 : Array Oper := regOps C14_3
def C14_4 : Code := cr C14_2
theorem R14_0_N : dstsOk 4 R14_0 = true := by decide +kernel
theorem E14_1 : C14_1 = .region 0 R14_0 false := rfl
theorem R14_1_N : dstsOk 4 R14_1 = true := by decide +kernel
theorem E14_3 : C14_3 = .region 1 R14_1 false := rfl
theorem E14_4 : C14_4 = .ret := rfl
theorem E14_2 : C14_2 = .seq C14_3 C14_4 := rfl
theorem E14_0 : C14_0 = .seq C14_1 C14_2 := rfl
def S14_0 (Q : (Int × Int × Int × Int × Int × Int × Int × Bool × Value × Value) → AW → Prop) (E : List PanicEntry → AW → Prop)  (m_0_0 : Int) (m_0_1 : Int) (m_0_2 : Int) (m_0_3 : Int) (m_0_4 : Int) (m_0_5 : Int) (m_0_6 : Int) (m_0_7 : Bool) (m_0_8 : Value) (m_0_9 : Value) (aw : AW) : Prop :=
  alc aw [.int .u8 m_0_0, .int .i64 m_0_1, .int .i64 m_0_2, .int .u64 m_0_3, .int .u64 m_0_4, .int .u64 m_0_5, .int .u64 m_0_6, .bool m_0_7, m_0_8, m_0_9] 43 0 fun p1 aw2 =>
  alc aw2 [.int .u8 0, .int .i64 0, .int .i64 0, .int .u64 0, .int .u64 0, .int .u64 0, .int .u64 0, .bool false, (.slice none 0 0), (.slice none 0 0)] 46 0 fun p5 aw6 =>
  ptr p1 fun b9 i10 =>
  gI .u8 aw6 b9 i10 fun c12 =>
  gI .i64 aw6 b9 (i10 + 1) fun c13 =>
  gI .i64 aw6 b9 (i10 + 2) fun c14 =>
  gI .u64 aw6 b9 (i10 + 3) fun c15 =>
  gI .u64 aw6 b9 (i10 + 4) fun c16 =>
  gI .u64 aw6 b9 (i10 + 5) fun c17 =>
  gI .u64 aw6 b9 (i10 + 6) fun c18 =>
  gB aw6 b9 (i10 + 7) fun c19 =>
  gV aw6 b9 (i10 + 8) fun c20 =>
  gV aw6 b9 (i10 + 9) fun c21 =>
  st aw6 p5 [.int .u8 c12, .int .i64 c13, .int .i64 c14, .int .u64 c15, .int .u64 c16, .int .u64 c17, .int .u64 c18, .bool c19, c20, c21] fun aw32 =>
  ptr p5 fun b39 i40 => gI .u8 aw32 b39 i40 fun c42 => gI .i64 aw32 b39 (i40 + 1) fun c43 => gI .i64 aw32 b39 (i40 + 2) fun c44 => gI .u64 aw32 b39 (i40 + 3) fun c45 => gI .u64 aw32 b39 (i40 + 4) fun c46 => gI .u64 aw32 b39 (i40 + 5) fun c47 => gI .u64 aw32 b39 (i40 + 6) fun c48 => gB aw32 b39 (i40 + 7) fun c49 => gV aw32 b39 (i40 + 8) fun c50 => gV aw32 b39 (i40 + 9) fun c51 => Q (c42, c43, c44, c45, c46, c47, c48, c49, c50, c51) aw32
theorem S14_0_ok (Q : (Int × Int × Int × Int × Int × Int × Int × Bool × Value × Value) → AW → Prop) (E : List PanicEntry → AW → Prop)  (ρ : Env) (m_0_0 : Int) (m_0_1 : Int) (m_0_2 : Int) (m_0_3 : Int) (m_0_4 : Int) (m_0_5 : Int) (m_0_6 : Int) (m_0_7 : Bool) (m_0_8 : Value) (m_0_9 : Value) (aw : AW) (h0 : ρ 0 = .agg #[.int .u8 m_0_0, .int .i64 m_0_1, .int .i64 m_0_2, .int .u64 m_0_3, .int .u64 m_0_4, .int .u64 m_0_5, .int .u64 m_0_6, .bool m_0_7, m_0_8, m_0_9]) (H : S14_0 Q E  m_0_0 m_0_1 m_0_2 m_0_3 m_0_4 m_0_5 m_0_6 m_0_7 m_0_8 m_0_9 aw) :
    AGo prog 4 [.code C14_0] ρ [] aw (RR prog f14 4 sh14 Q E) := by
  unfold S14_0 at H
  refine ago_seqE E14_0 ?_
  refine ago_regE E14_1 (l := [0, 1]) rfl ?_
  obtain ⟨p1, aw2, hp3, ha4, H⟩ := H
  refine lk (dt := some 1) R14_0_N rfl rfl rfl (ov_box rfl rfl h0 rfl hp3 ha4) ?_
  obtain ⟨p5, aw6, hp7, ha8, H⟩ := H
  refine lk (dt := some 2) R14_0_N rfl rfl rfl (ov_alloc rfl z46 rfl rfl hp7 ha8) ?_
  refine aops_nil ?_
  refine ago_seqE E14_2 ?_
  refine ago_regE E14_3 (l := [0, 1]) rfl ?_
  obtain ⟨b9, i10, hp11, c12, hg22, c13, hg23, c14, hg24, c15, hg25, c16, hg26, c17, hg27, c18, hg28, c19, hg29, c20, hg30, c21, hg31, H⟩ := H
  refine lk (dt := some 3) R14_1_N rfl rfl rfl (ov_ldN rfl underlying43 rfl sz43 rfl rfl hp11 (getN_cons hg22 (getN_cons hg23 (getN_cons hg24 (getN_cons hg25 (getN_cons hg26 (getN_cons hg27 (getN_cons hg28 (getN_cons hg29 (getN_cons hg30 (getN_cons hg31 getN_nil))))))))))) ?_
  obtain ⟨b33, i34, aw32, hp35, hw36, ho37, ha38, H⟩ := H
  refine lk (dt := none) R14_1_N rfl rfl rfl (ov_st rfl rfl rfl rfl rfl rfl sz46 hp35 hw36 ho37 ha38) ?_
  refine aops_nil ?_
  obtain ⟨b39, i40, hp41, c42, hg52, c43, hg53, c44, hg54, c45, hg55, c46, hg56, c47, hg57, c48, hg58, c49, hg59, c50, hg60, c51, hg61, H⟩ := H
  exact ago_retE E14_4 (r := (c42, c43, c44, c45, c46, c47, c48, c49, c50, c51)) (ares_1 rfl (oneN rfl hp41 underlying46 rfl sz46 (getN_cons hg52 (getN_cons hg53 (getN_cons hg54 (getN_cons hg55 (getN_cons hg56 (getN_cons hg57 (getN_cons hg58 (getN_cons hg59 (getN_cons hg60 (getN_cons hg61 getN_nil)))))))))))) rfl H
theorem F14_ok {Q : (Int × Int × Int × Int × Int × Int × Int × Bool × Value × Value) → AW → Prop} {E : List PanicEntry → AW → Prop} (m_0_0 : Int) (m_0_1 : Int) (m_0_2 : Int) (m_0_3 : Int) (m_0_4 : Int) (m_0_5 : Int) (m_0_6 : Int) (m_0_7 : Bool) (m_0_8 : Value) (m_0_9 : Value) (aw : AW) (H : S14_0 Q E m_0_0 m_0_1 m_0_2 m_0_3 m_0_4 m_0_5 m_0_6 m_0_7 m_0_8 m_0_9 aw) : CallP prog 14 [.agg #[.int .u8 m_0_0, .int .i64 m_0_1, .int .i64 m_0_2, .int .u64 m_0_3, .int .u64 m_0_4, .int .u64 m_0_5, .int .u64 m_0_6, .bool m_0_7, m_0_8, m_0_9]] aw sh14 Q E :=
  callP_of func14 C14_is rfl (Nat.le_of_ble_eq_true rfl) (S14_0_ok Q E _ m_0_0 m_0_1 m_0_2 m_0_3 m_0_4 m_0_5 m_0_6 m_0_7 m_0_8 m_0_9 aw rfl H)
end
end Go.Proofs.Try
