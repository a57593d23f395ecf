/- Printed by a program of the prover: what the Go functions of this seat do, in steps. -/
import Derived.Test.YtfdfakapkhflcaaBaF
set_option linter.unusedSectionVars false
set_option linter.unusedSimpArgs false
set_option linter.unusedVariables false
namespace Go.Proofs.Try
open Go Go.Am Go.RowKit
set_option maxHeartbeats 4000000
set_option maxRecDepth 100000
noncomputable section
variable [SymE]
def C8_0 : Code := bodyOf f8
theorem C8_is : f8.body = some C8_0 := by kernel_rfl
def C8_1 : Code := cl C8_0
def R8_0 : Array Oper := regOps C8_1
def C8_2 : Code := cr C8_0
def C8_3 : Code := cl C8_2
def C8_4 : Code := cl C8_3
def R8_1 : Array Oper := regOps C8_4
def C8_5 : Code := cr C8_3
def C8_6 : Code := cl C8_5
def C8_7 : Code := cl C8_6
def R8_2 : Array Oper := regOps C8_7
def C8_8 : Code := cr C8_6
def C8_9 : Code := cr C8_5
def C8_10 : Code := cr C8_2
def C8_11 : Code := cl C8_10
def R8_3 : Array Oper := regOps C8_11
def C8_12 : Code := cr C8_10
theorem R8_0_N : dstsOk 43 R8_0 = true := by decide +kernel
theorem E8_1 : C8_1 = .region 0 R8_0 false := rfl
theorem R8_1_N : dstsOk 43 R8_1 = true := by decide +kernel
theorem E8_4 : C8_4 = .region 1 R8_1 false := rfl
theorem R8_2_N : dstsOk 43 R8_2 = true := by decide +kernel
theorem E8_7 : C8_7 = .region 2 R8_2 false := rfl
theorem E8_8 : C8_8 = .ret := rfl
theorem E8_6 : C8_6 = .seq C8_7 C8_8 := rfl
theorem E8_9 : C8_9 = .skip := rfl
theorem E8_5 : C8_5 = .cond (.tmp 30) C8_6 C8_9 := rfl
theorem E8_3 : C8_3 = .seq C8_4 C8_5 := rfl
theorem R8_3_N : dstsOk 43 R8_3 = true := by decide +kernel
theorem R8_3_O : linGOk R8_3 [(5, 37), (7, 39), (9, 41)] [0, 1, 2, 3, 4, 6, 8] [0, 1, 2, 3] [10] [(11, [], [12])] = true := by decide +kernel
theorem E8_11 : C8_11 = .region 3 R8_3 true := rfl
theorem E8_12 : C8_12 = .ret := rfl
theorem E8_10 : C8_10 = .seq C8_11 C8_12 := rfl
theorem E8_2 : C8_2 = .seq C8_3 C8_10 := rfl
theorem E8_0 : C8_0 = .seq C8_1 C8_2 := rfl
def S8_0 (Q : (Int × Int × Int × Int × Int × Int × Int × Value × Value × Int × Int × Int × Int × Value × Value × Value × Int) → AW → Prop) (E : List PanicEntry → AW → Prop)  (n_0 : Int) (self_1 : Int) (wait_2 : Int) (aw : AW) : Prop :=
  alc aw [.int .i64 0, .int .i64 0, .int .i64 0, .int .u64 0, .int .i64 0, .int .u64 0, .int .u64 0, (.slice none 0 0), (.slice none 0 0), .int .u64 0, .int .u8 0, .int .i64 0, .int .i64 0, (.slice none 0 0), (.slice none 0 0), (.slice none 0 0)] 30 0 fun p1 aw2 =>
  cnd (decide (n_0 < 1)) (st aw2 p1 [.int .i64 0, .int .i64 0, .int .i64 0, .int .u64 0, .int .i64 0, .int .u64 0, .int .u64 0, (.slice none 0 0), (.slice none 0 0), .int .u64 0, .int .u8 0, .int .i64 0, .int .i64 0, (.slice none 0 0), (.slice none 0 0), (.slice none 0 0)] fun aw7 =>
  ptr p1 fun b14 i15 => gI .i64 aw7 b14 i15 fun c17 => gI .i64 aw7 b14 (i15 + 1) fun c18 => gI .i64 aw7 b14 (i15 + 2) fun c19 => gI .u64 aw7 b14 (i15 + 3) fun c20 => gI .i64 aw7 b14 (i15 + 4) fun c21 => gI .u64 aw7 b14 (i15 + 5) fun c22 => gI .u64 aw7 b14 (i15 + 6) fun c23 => gV aw7 b14 (i15 + 7) fun c24 => gV aw7 b14 (i15 + 8) fun c25 => gI .u64 aw7 b14 (i15 + 9) fun c26 => gI .u8 aw7 b14 (i15 + 10) fun c27 => gI .i64 aw7 b14 (i15 + 11) fun c28 => gI .i64 aw7 b14 (i15 + 12) fun c29 => gV aw7 b14 (i15 + 13) fun c30 => gV aw7 b14 (i15 + 14) fun c31 => gV aw7 b14 (i15 + 15) fun c32 => Q (c17, c18, c19, c20, c21, c22, c23, c24, c25, c26, c27, c28, c29, c30, c31, c32, 1) aw7) (cnd (decide (7 < n_0)) (st aw2 p1 [.int .i64 0, .int .i64 0, .int .i64 0, .int .u64 0, .int .i64 0, .int .u64 0, .int .u64 0, (.slice none 0 0), (.slice none 0 0), .int .u64 0, .int .u8 0, .int .i64 0, .int .i64 0, (.slice none 0 0), (.slice none 0 0), (.slice none 0 0)] fun aw51 =>
  ptr p1 fun b58 i59 => gI .i64 aw51 b58 i59 fun c61 => gI .i64 aw51 b58 (i59 + 1) fun c62 => gI .i64 aw51 b58 (i59 + 2) fun c63 => gI .u64 aw51 b58 (i59 + 3) fun c64 => gI .i64 aw51 b58 (i59 + 4) fun c65 => gI .u64 aw51 b58 (i59 + 5) fun c66 => gI .u64 aw51 b58 (i59 + 6) fun c67 => gV aw51 b58 (i59 + 7) fun c68 => gV aw51 b58 (i59 + 8) fun c69 => gI .u64 aw51 b58 (i59 + 9) fun c70 => gI .u8 aw51 b58 (i59 + 10) fun c71 => gI .i64 aw51 b58 (i59 + 11) fun c72 => gI .i64 aw51 b58 (i59 + 12) fun c73 => gV aw51 b58 (i59 + 13) fun c74 => gV aw51 b58 (i59 + 14) fun c75 => gV aw51 b58 (i59 + 15) fun c76 => Q (c61, c62, c63, c64, c65, c66, c67, c68, c69, c70, c71, c72, c73, c74, c75, c76, 1) aw51) (cnd (decide (self_1 < 0)) (st aw2 p1 [.int .i64 0, .int .i64 0, .int .i64 0, .int .u64 0, .int .i64 0, .int .u64 0, .int .u64 0, (.slice none 0 0), (.slice none 0 0), .int .u64 0, .int .u8 0, .int .i64 0, .int .i64 0, (.slice none 0 0), (.slice none 0 0), (.slice none 0 0)] fun aw95 =>
  ptr p1 fun b102 i103 => gI .i64 aw95 b102 i103 fun c105 => gI .i64 aw95 b102 (i103 + 1) fun c106 => gI .i64 aw95 b102 (i103 + 2) fun c107 => gI .u64 aw95 b102 (i103 + 3) fun c108 => gI .i64 aw95 b102 (i103 + 4) fun c109 => gI .u64 aw95 b102 (i103 + 5) fun c110 => gI .u64 aw95 b102 (i103 + 6) fun c111 => gV aw95 b102 (i103 + 7) fun c112 => gV aw95 b102 (i103 + 8) fun c113 => gI .u64 aw95 b102 (i103 + 9) fun c114 => gI .u8 aw95 b102 (i103 + 10) fun c115 => gI .i64 aw95 b102 (i103 + 11) fun c116 => gI .i64 aw95 b102 (i103 + 12) fun c117 => gV aw95 b102 (i103 + 13) fun c118 => gV aw95 b102 (i103 + 14) fun c119 => gV aw95 b102 (i103 + 15) fun c120 => Q (c105, c106, c107, c108, c109, c110, c111, c112, c113, c114, c115, c116, c117, c118, c119, c120, 1) aw95) (cnd (decide (n_0 ≤ self_1)) (st aw2 p1 [.int .i64 0, .int .i64 0, .int .i64 0, .int .u64 0, .int .i64 0, .int .u64 0, .int .u64 0, (.slice none 0 0), (.slice none 0 0), .int .u64 0, .int .u8 0, .int .i64 0, .int .i64 0, (.slice none 0 0), (.slice none 0 0), (.slice none 0 0)] fun aw139 =>
  ptr p1 fun b146 i147 => gI .i64 aw139 b146 i147 fun c149 => gI .i64 aw139 b146 (i147 + 1) fun c150 => gI .i64 aw139 b146 (i147 + 2) fun c151 => gI .u64 aw139 b146 (i147 + 3) fun c152 => gI .i64 aw139 b146 (i147 + 4) fun c153 => gI .u64 aw139 b146 (i147 + 5) fun c154 => gI .u64 aw139 b146 (i147 + 6) fun c155 => gV aw139 b146 (i147 + 7) fun c156 => gV aw139 b146 (i147 + 8) fun c157 => gI .u64 aw139 b146 (i147 + 9) fun c158 => gI .u8 aw139 b146 (i147 + 10) fun c159 => gI .i64 aw139 b146 (i147 + 11) fun c160 => gI .i64 aw139 b146 (i147 + 12) fun c161 => gV aw139 b146 (i147 + 13) fun c162 => gV aw139 b146 (i147 + 14) fun c163 => gV aw139 b146 (i147 + 15) fun c164 => Q (c149, c150, c151, c152, c153, c154, c155, c156, c157, c158, c159, c160, c161, c162, c163, c164, 1) aw139) (cnd (decide (wait_2 < 2)) (st aw2 p1 [.int .i64 0, .int .i64 0, .int .i64 0, .int .u64 0, .int .i64 0, .int .u64 0, .int .u64 0, (.slice none 0 0), (.slice none 0 0), .int .u64 0, .int .u8 0, .int .i64 0, .int .i64 0, (.slice none 0 0), (.slice none 0 0), (.slice none 0 0)] fun aw183 =>
  ptr p1 fun b190 i191 => gI .i64 aw183 b190 i191 fun c193 => gI .i64 aw183 b190 (i191 + 1) fun c194 => gI .i64 aw183 b190 (i191 + 2) fun c195 => gI .u64 aw183 b190 (i191 + 3) fun c196 => gI .i64 aw183 b190 (i191 + 4) fun c197 => gI .u64 aw183 b190 (i191 + 5) fun c198 => gI .u64 aw183 b190 (i191 + 6) fun c199 => gV aw183 b190 (i191 + 7) fun c200 => gV aw183 b190 (i191 + 8) fun c201 => gI .u64 aw183 b190 (i191 + 9) fun c202 => gI .u8 aw183 b190 (i191 + 10) fun c203 => gI .i64 aw183 b190 (i191 + 11) fun c204 => gI .i64 aw183 b190 (i191 + 12) fun c205 => gV aw183 b190 (i191 + 13) fun c206 => gV aw183 b190 (i191 + 14) fun c207 => gV aw183 b190 (i191 + 15) fun c208 => Q (c193, c194, c195, c196, c197, c198, c199, c200, c201, c202, c203, c204, c205, c206, c207, c208, 1) aw183) (cnd (decide (1000 < wait_2)) (st aw2 p1 [.int .i64 0, .int .i64 0, .int .i64 0, .int .u64 0, .int .i64 0, .int .u64 0, .int .u64 0, (.slice none 0 0), (.slice none 0 0), .int .u64 0, .int .u8 0, .int .i64 0, .int .i64 0, (.slice none 0 0), (.slice none 0 0), (.slice none 0 0)] fun aw226 =>
  ptr p1 fun b233 i234 => gI .i64 aw226 b233 i234 fun c236 => gI .i64 aw226 b233 (i234 + 1) fun c237 => gI .i64 aw226 b233 (i234 + 2) fun c238 => gI .u64 aw226 b233 (i234 + 3) fun c239 => gI .i64 aw226 b233 (i234 + 4) fun c240 => gI .u64 aw226 b233 (i234 + 5) fun c241 => gI .u64 aw226 b233 (i234 + 6) fun c242 => gV aw226 b233 (i234 + 7) fun c243 => gV aw226 b233 (i234 + 8) fun c244 => gI .u64 aw226 b233 (i234 + 9) fun c245 => gI .u8 aw226 b233 (i234 + 10) fun c246 => gI .i64 aw226 b233 (i234 + 11) fun c247 => gI .i64 aw226 b233 (i234 + 12) fun c248 => gV aw226 b233 (i234 + 13) fun c249 => gV aw226 b233 (i234 + 14) fun c250 => gV aw226 b233 (i234 + 15) fun c251 => Q (c236, c237, c238, c239, c240, c241, c242, c243, c244, c245, c246, c247, c248, c249, c250, c251, 1) aw226) (mk aw2 4 1 1 [.bool false] n_0 n_0 fun p268 aw269 =>
  mk aw269 24 1 8 [.int .u64 0] n_0 n_0 fun p276 aw277 =>
  mk aw277 24 1 8 [.int .u64 0] n_0 n_0 fun p284 aw285 =>
  one p268 = true ∧ one p276 = true ∧ one p284 = true ∧ st aw285 p1 [.int .i64 n_0, .int .i64 self_1, .int .i64 wait_2, .int .u64 0, .int .i64 (-1), .int .u64 0, .int .u64 0, (.slice none 0 0), (.slice none 0 0), .int .u64 0, .int .u8 0, .int .i64 (-1), .int .i64 wait_2, p268, p276, p284] fun aw295 =>
  ptr p1 fun b302 i303 => gI .i64 aw295 b302 i303 fun c305 => gI .i64 aw295 b302 (i303 + 1) fun c306 => gI .i64 aw295 b302 (i303 + 2) fun c307 => gI .u64 aw295 b302 (i303 + 3) fun c308 => gI .i64 aw295 b302 (i303 + 4) fun c309 => gI .u64 aw295 b302 (i303 + 5) fun c310 => gI .u64 aw295 b302 (i303 + 6) fun c311 => gV aw295 b302 (i303 + 7) fun c312 => gV aw295 b302 (i303 + 8) fun c313 => gI .u64 aw295 b302 (i303 + 9) fun c314 => gI .u8 aw295 b302 (i303 + 10) fun c315 => gI .i64 aw295 b302 (i303 + 11) fun c316 => gI .i64 aw295 b302 (i303 + 12) fun c317 => gV aw295 b302 (i303 + 13) fun c318 => gV aw295 b302 (i303 + 14) fun c319 => gV aw295 b302 (i303 + 15) fun c320 => Q (c305, c306, c307, c308, c309, c310, c311, c312, c313, c314, c315, c316, c317, c318, c319, c320, 0) aw295))))))
theorem S8_0_ok (Q : (Int × Int × Int × Int × Int × Int × Int × Value × Value × Int × Int × Int × Int × Value × Value × Value × Int) → AW → Prop) (E : List PanicEntry → AW → Prop)  (ρ : Env) (n_0 : Int) (self_1 : Int) (wait_2 : Int) (aw : AW) (h0 : ρ 0 = .int .i64 n_0) (h1 : ρ 1 = .int .i64 self_1) (h2 : ρ 2 = .int .i64 wait_2) (H : S8_0 Q E  n_0 self_1 wait_2 aw) :
    AGo prog 43 [.code C8_0] ρ [] aw (RR prog f8 43 sh8 Q E) := by
  unfold S8_0 at H
  refine ago_seqE E8_0 ?_
  refine ago_regE E8_1 (l := [0, 1]) rfl ?_
  obtain ⟨p1, aw2, hp3, ha4, H⟩ := H
  refine lk (dt := some 6) R8_0_N rfl rfl rfl (ov_alloc rfl z30 rfl rfl hp3 ha4) ?_
  refine lk (dt := some 7) R8_0_N rfl rfl rfl (opv_assign rfl rfl rfl) ?_
  refine aops_nil ?_
  refine ago_seqE E8_2 ?_
  refine ago_seqE E8_3 ?_
  refine ago_regE E8_4 (l := [0, 1, 2, 3, 4, 5, 6, 7, 8, 9, 10, 11, 12, 13, 14, 15, 16, 17, 18, 19, 20, 21, 22]) rfl ?_
  refine lk (dt := some 8) R8_1_N rfl rfl rfl (opv_move rfl rfl h0) ?_
  refine lk (dt := some 9) R8_1_N rfl rfl rfl (opv_lt rfl rfl rfl rfl rfl) ?_
  refine lk (dt := some 10) R8_1_N rfl rfl rfl (opv_move rfl rfl rfl) ?_
  rcases Bool.eq_false_or_eq_true (decide (n_0 < 1)) with hb5 | hb5
  · replace H := cnd_t H hb5
    refine lk_skip (dt := some 11) R8_1_N rfl rfl ⟨_, rfl, .inl ⟨_, rfl, gq hb5 rfl⟩⟩ ?_
    refine lk_skip (dt := some 12) R8_1_N rfl rfl ⟨_, rfl, .inl ⟨_, rfl, gq hb5 rfl⟩⟩ ?_
    refine lk (dt := some 13) R8_1_N rfl rfl rfl (ov_pickT rfl rfl rfl rfl rfl hb5 rfl) ?_
    refine lk (dt := some 14) R8_1_N rfl rfl rfl (opv_move rfl rfl rfl) ?_
    refine lk_skip (dt := some 15) R8_1_N rfl rfl ⟨_, rfl, .inl ⟨_, rfl, gq rfl rfl⟩⟩ ?_
    refine lk_skip (dt := some 16) R8_1_N rfl rfl ⟨_, rfl, .inl ⟨_, rfl, gq rfl rfl⟩⟩ ?_
    refine lk (dt := some 17) R8_1_N rfl rfl rfl (ov_pickT rfl rfl rfl rfl rfl rfl rfl) ?_
    refine lk (dt := some 18) R8_1_N rfl rfl rfl (opv_move rfl rfl rfl) ?_
    refine lk_skip (dt := some 19) R8_1_N rfl rfl ⟨_, rfl, .inl ⟨_, rfl, gq rfl rfl⟩⟩ ?_
    refine lk_skip (dt := some 20) R8_1_N rfl rfl ⟨_, rfl, .inl ⟨_, rfl, gq rfl rfl⟩⟩ ?_
    refine lk_skip (dt := some 21) R8_1_N rfl rfl ⟨_, rfl, .inl ⟨_, rfl, gq rfl rfl⟩⟩ ?_
    refine lk (dt := some 22) R8_1_N rfl rfl rfl (ov_pickT rfl rfl rfl rfl rfl rfl rfl) ?_
    refine lk (dt := some 23) R8_1_N rfl rfl rfl (opv_move rfl rfl rfl) ?_
    refine lk_skip (dt := some 24) R8_1_N rfl rfl ⟨_, rfl, .inl ⟨_, rfl, gq rfl rfl⟩⟩ ?_
    refine lk_skip (dt := some 25) R8_1_N rfl rfl ⟨_, rfl, .inl ⟨_, rfl, gq rfl rfl⟩⟩ ?_
    refine lk (dt := some 26) R8_1_N rfl rfl rfl (ov_pickT rfl rfl rfl rfl rfl rfl rfl) ?_
    refine lk (dt := some 27) R8_1_N rfl rfl rfl (opv_move rfl rfl rfl) ?_
    refine lk_skip (dt := some 28) R8_1_N rfl rfl ⟨_, rfl, .inl ⟨_, rfl, gq rfl rfl⟩⟩ ?_
    refine lk_skip (dt := some 29) R8_1_N rfl rfl ⟨_, rfl, .inl ⟨_, rfl, gq rfl rfl⟩⟩ ?_
    refine lk (dt := some 30) R8_1_N rfl rfl rfl (ov_pickT rfl rfl rfl rfl rfl rfl rfl) ?_
    refine aops_nil ?_
    refine ago_condE  E8_5 rfl rfl (fun h => ?_) (fun h => tf h)
    refine ago_seqE E8_6 ?_
    refine ago_cut (fun ρ => ρ 6 = p1 ∧ True) ⟨rfl, trivial⟩ (fun ρ ⟨h6, _⟩ => ?_)
    refine ago_regE E8_7 (l := [0, 1, 2]) rfl ?_
    refine lk (dt := some 31) R8_2_N rfl rfl rfl (ov_bld (r := [.int .i64 0, .int .i64 0, .int .i64 0, .int .u64 0, .int .i64 0, .int .u64 0, .int .u64 0, (.slice none 0 0), (.slice none 0 0), .int .u64 0, .int .u8 0, .int .i64 0, .int .i64 0, (.slice none 0 0), (.slice none 0 0), (.slice none 0 0)]) rfl rfl bo30 rfl (fillN rfl)) ?_
    obtain ⟨b8, i9, aw7, hp10, hw11, ho12, ha13, H⟩ := H
    refine lk (dt := none) R8_2_N rfl rfl rfl (ov_st rfl rfl rfl h6 rfl rfl sz30 hp10 hw11 ho12 ha13) ?_
    refine lk (dt := some 7) R8_2_N rfl rfl rfl (opv_assign rfl rfl rfl) ?_
    refine aops_nil ?_
    obtain ⟨b14, i15, hp16, c17, hg33, c18, hg34, c19, hg35, c20, hg36, c21, hg37, c22, hg38, c23, hg39, c24, hg40, c25, hg41, c26, hg42, c27, hg43, c28, hg44, c29, hg45, c30, hg46, c31, hg47, c32, hg48, H⟩ := H
    exact ago_retE E8_8 (r := (c17, c18, c19, c20, c21, c22, c23, c24, c25, c26, c27, c28, c29, c30, c31, c32, 1)) (ares_2 rfl (oneN h6 hp16 underlying30 rfl sz30 (getN_cons hg33 (getN_cons hg34 (getN_cons hg35 (getN_cons hg36 (getN_cons hg37 (getN_cons hg38 (getN_cons hg39 (getN_cons hg40 (getN_cons hg41 (getN_cons hg42 (getN_cons hg43 (getN_cons hg44 (getN_cons hg45 (getN_cons hg46 (getN_cons hg47 (getN_cons hg48 getN_nil))))))))))))))))) (oneT rfl)) rfl H
  · replace H := cnd_f H hb5
    refine lk (dt := some 11) R8_1_N rfl rfl ⟨_, rfl, .inl ⟨_, rfl, gq hb5 rfl⟩⟩ (opv_move rfl rfl h0) ?_
    refine lk (dt := some 12) R8_1_N rfl rfl ⟨_, rfl, .inl ⟨_, rfl, gq hb5 rfl⟩⟩ (opv_gt rfl rfl rfl rfl rfl) ?_
    refine lk (dt := some 13) R8_1_N rfl rfl rfl (ov_pickF rfl rfl rfl rfl rfl hb5 rfl) ?_
    refine lk (dt := some 14) R8_1_N rfl rfl rfl (opv_move rfl rfl rfl) ?_
    rcases Bool.eq_false_or_eq_true (decide (7 < n_0)) with hb49 | hb49
    · replace H := cnd_t H hb49
      refine lk_skip (dt := some 15) R8_1_N rfl rfl ⟨_, rfl, .inl ⟨_, rfl, gq hb49 rfl⟩⟩ ?_
      refine lk_skip (dt := some 16) R8_1_N rfl rfl ⟨_, rfl, .inl ⟨_, rfl, gq hb49 rfl⟩⟩ ?_
      refine lk (dt := some 17) R8_1_N rfl rfl rfl (ov_pickT rfl rfl rfl rfl rfl hb49 rfl) ?_
      refine lk (dt := some 18) R8_1_N rfl rfl rfl (opv_move rfl rfl rfl) ?_
      refine lk_skip (dt := some 19) R8_1_N rfl rfl ⟨_, rfl, .inl ⟨_, rfl, gq rfl rfl⟩⟩ ?_
      refine lk_skip (dt := some 20) R8_1_N rfl rfl ⟨_, rfl, .inl ⟨_, rfl, gq rfl rfl⟩⟩ ?_
      refine lk_skip (dt := some 21) R8_1_N rfl rfl ⟨_, rfl, .inl ⟨_, rfl, gq rfl rfl⟩⟩ ?_
      refine lk (dt := some 22) R8_1_N rfl rfl rfl (ov_pickT rfl rfl rfl rfl rfl rfl rfl) ?_
      refine lk (dt := some 23) R8_1_N rfl rfl rfl (opv_move rfl rfl rfl) ?_
      refine lk_skip (dt := some 24) R8_1_N rfl rfl ⟨_, rfl, .inl ⟨_, rfl, gq rfl rfl⟩⟩ ?_
      refine lk_skip (dt := some 25) R8_1_N rfl rfl ⟨_, rfl, .inl ⟨_, rfl, gq rfl rfl⟩⟩ ?_
      refine lk (dt := some 26) R8_1_N rfl rfl rfl (ov_pickT rfl rfl rfl rfl rfl rfl rfl) ?_
      refine lk (dt := some 27) R8_1_N rfl rfl rfl (opv_move rfl rfl rfl) ?_
      refine lk_skip (dt := some 28) R8_1_N rfl rfl ⟨_, rfl, .inl ⟨_, rfl, gq rfl rfl⟩⟩ ?_
      refine lk_skip (dt := some 29) R8_1_N rfl rfl ⟨_, rfl, .inl ⟨_, rfl, gq rfl rfl⟩⟩ ?_
      refine lk (dt := some 30) R8_1_N rfl rfl rfl (ov_pickT rfl rfl rfl rfl rfl rfl rfl) ?_
      refine aops_nil ?_
      refine ago_condE  E8_5 rfl rfl (fun h => ?_) (fun h => tf h)
      refine ago_seqE E8_6 ?_
      refine ago_cut (fun ρ => ρ 6 = p1 ∧ True) ⟨rfl, trivial⟩ (fun ρ ⟨h6, _⟩ => ?_)
      refine ago_regE E8_7 (l := [0, 1, 2]) rfl ?_
      refine lk (dt := some 31) R8_2_N rfl rfl rfl (ov_bld (r := [.int .i64 0, .int .i64 0, .int .i64 0, .int .u64 0, .int .i64 0, .int .u64 0, .int .u64 0, (.slice none 0 0), (.slice none 0 0), .int .u64 0, .int .u8 0, .int .i64 0, .int .i64 0, (.slice none 0 0), (.slice none 0 0), (.slice none 0 0)]) rfl rfl bo30 rfl (fillN rfl)) ?_
      obtain ⟨b52, i53, aw51, hp54, hw55, ho56, ha57, H⟩ := H
      refine lk (dt := none) R8_2_N rfl rfl rfl (ov_st rfl rfl rfl h6 rfl rfl sz30 hp54 hw55 ho56 ha57) ?_
      refine lk (dt := some 7) R8_2_N rfl rfl rfl (opv_assign rfl rfl rfl) ?_
      refine aops_nil ?_
      obtain ⟨b58, i59, hp60, c61, hg77, c62, hg78, c63, hg79, c64, hg80, c65, hg81, c66, hg82, c67, hg83, c68, hg84, c69, hg85, c70, hg86, c71, hg87, c72, hg88, c73, hg89, c74, hg90, c75, hg91, c76, hg92, H⟩ := H
      exact ago_retE E8_8 (r := (c61, c62, c63, c64, c65, c66, c67, c68, c69, c70, c71, c72, c73, c74, c75, c76, 1)) (ares_2 rfl (oneN h6 hp60 underlying30 rfl sz30 (getN_cons hg77 (getN_cons hg78 (getN_cons hg79 (getN_cons hg80 (getN_cons hg81 (getN_cons hg82 (getN_cons hg83 (getN_cons hg84 (getN_cons hg85 (getN_cons hg86 (getN_cons hg87 (getN_cons hg88 (getN_cons hg89 (getN_cons hg90 (getN_cons hg91 (getN_cons hg92 getN_nil))))))))))))))))) (oneT rfl)) rfl H
    · replace H := cnd_f H hb49
      refine lk (dt := some 15) R8_1_N rfl rfl ⟨_, rfl, .inl ⟨_, rfl, gq hb49 rfl⟩⟩ (opv_move rfl rfl h1) ?_
      refine lk (dt := some 16) R8_1_N rfl rfl ⟨_, rfl, .inl ⟨_, rfl, gq hb49 rfl⟩⟩ (opv_lt rfl rfl rfl rfl rfl) ?_
      refine lk (dt := some 17) R8_1_N rfl rfl rfl (ov_pickF rfl rfl rfl rfl rfl hb49 rfl) ?_
      refine lk (dt := some 18) R8_1_N rfl rfl rfl (opv_move rfl rfl rfl) ?_
      rcases Bool.eq_false_or_eq_true (decide (self_1 < 0)) with hb93 | hb93
      · replace H := cnd_t H hb93
        refine lk_skip (dt := some 19) R8_1_N rfl rfl ⟨_, rfl, .inl ⟨_, rfl, gq hb93 rfl⟩⟩ ?_
        refine lk_skip (dt := some 20) R8_1_N rfl rfl ⟨_, rfl, .inl ⟨_, rfl, gq hb93 rfl⟩⟩ ?_
        refine lk_skip (dt := some 21) R8_1_N rfl rfl ⟨_, rfl, .inl ⟨_, rfl, gq hb93 rfl⟩⟩ ?_
        refine lk (dt := some 22) R8_1_N rfl rfl rfl (ov_pickT rfl rfl rfl rfl rfl hb93 rfl) ?_
        refine lk (dt := some 23) R8_1_N rfl rfl rfl (opv_move rfl rfl rfl) ?_
        refine lk_skip (dt := some 24) R8_1_N rfl rfl ⟨_, rfl, .inl ⟨_, rfl, gq rfl rfl⟩⟩ ?_
        refine lk_skip (dt := some 25) R8_1_N rfl rfl ⟨_, rfl, .inl ⟨_, rfl, gq rfl rfl⟩⟩ ?_
        refine lk (dt := some 26) R8_1_N rfl rfl rfl (ov_pickT rfl rfl rfl rfl rfl rfl rfl) ?_
        refine lk (dt := some 27) R8_1_N rfl rfl rfl (opv_move rfl rfl rfl) ?_
        refine lk_skip (dt := some 28) R8_1_N rfl rfl ⟨_, rfl, .inl ⟨_, rfl, gq rfl rfl⟩⟩ ?_
        refine lk_skip (dt := some 29) R8_1_N rfl rfl ⟨_, rfl, .inl ⟨_, rfl, gq rfl rfl⟩⟩ ?_
        refine lk (dt := some 30) R8_1_N rfl rfl rfl (ov_pickT rfl rfl rfl rfl rfl rfl rfl) ?_
        refine aops_nil ?_
        refine ago_condE  E8_5 rfl rfl (fun h => ?_) (fun h => tf h)
        refine ago_seqE E8_6 ?_
        refine ago_cut (fun ρ => ρ 6 = p1 ∧ True) ⟨rfl, trivial⟩ (fun ρ ⟨h6, _⟩ => ?_)
        refine ago_regE E8_7 (l := [0, 1, 2]) rfl ?_
        refine lk (dt := some 31) R8_2_N rfl rfl rfl (ov_bld (r := [.int .i64 0, .int .i64 0, .int .i64 0, .int .u64 0, .int .i64 0, .int .u64 0, .int .u64 0, (.slice none 0 0), (.slice none 0 0), .int .u64 0, .int .u8 0, .int .i64 0, .int .i64 0, (.slice none 0 0), (.slice none 0 0), (.slice none 0 0)]) rfl rfl bo30 rfl (fillN rfl)) ?_
        obtain ⟨b96, i97, aw95, hp98, hw99, ho100, ha101, H⟩ := H
        refine lk (dt := none) R8_2_N rfl rfl rfl (ov_st rfl rfl rfl h6 rfl rfl sz30 hp98 hw99 ho100 ha101) ?_
        refine lk (dt := some 7) R8_2_N rfl rfl rfl (opv_assign rfl rfl rfl) ?_
        refine aops_nil ?_
        obtain ⟨b102, i103, hp104, c105, hg121, c106, hg122, c107, hg123, c108, hg124, c109, hg125, c110, hg126, c111, hg127, c112, hg128, c113, hg129, c114, hg130, c115, hg131, c116, hg132, c117, hg133, c118, hg134, c119, hg135, c120, hg136, H⟩ := H
        exact ago_retE E8_8 (r := (c105, c106, c107, c108, c109, c110, c111, c112, c113, c114, c115, c116, c117, c118, c119, c120, 1)) (ares_2 rfl (oneN h6 hp104 underlying30 rfl sz30 (getN_cons hg121 (getN_cons hg122 (getN_cons hg123 (getN_cons hg124 (getN_cons hg125 (getN_cons hg126 (getN_cons hg127 (getN_cons hg128 (getN_cons hg129 (getN_cons hg130 (getN_cons hg131 (getN_cons hg132 (getN_cons hg133 (getN_cons hg134 (getN_cons hg135 (getN_cons hg136 getN_nil))))))))))))))))) (oneT rfl)) rfl H
      · replace H := cnd_f H hb93
        refine lk (dt := some 19) R8_1_N rfl rfl ⟨_, rfl, .inl ⟨_, rfl, gq hb93 rfl⟩⟩ (opv_move rfl rfl h1) ?_
        refine lk (dt := some 20) R8_1_N rfl rfl ⟨_, rfl, .inl ⟨_, rfl, gq hb93 rfl⟩⟩ (opv_move rfl rfl h0) ?_
        refine lk (dt := some 21) R8_1_N rfl rfl ⟨_, rfl, .inl ⟨_, rfl, gq hb93 rfl⟩⟩ (opv_ge rfl rfl rfl rfl rfl) ?_
        refine lk (dt := some 22) R8_1_N rfl rfl rfl (ov_pickF rfl rfl rfl rfl rfl hb93 rfl) ?_
        refine lk (dt := some 23) R8_1_N rfl rfl rfl (opv_move rfl rfl rfl) ?_
        rcases Bool.eq_false_or_eq_true (decide (n_0 ≤ self_1)) with hb137 | hb137
        · replace H := cnd_t H hb137
          refine lk_skip (dt := some 24) R8_1_N rfl rfl ⟨_, rfl, .inl ⟨_, rfl, gq hb137 rfl⟩⟩ ?_
          refine lk_skip (dt := some 25) R8_1_N rfl rfl ⟨_, rfl, .inl ⟨_, rfl, gq hb137 rfl⟩⟩ ?_
          refine lk (dt := some 26) R8_1_N rfl rfl rfl (ov_pickT rfl rfl rfl rfl rfl hb137 rfl) ?_
          refine lk (dt := some 27) R8_1_N rfl rfl rfl (opv_move rfl rfl rfl) ?_
          refine lk_skip (dt := some 28) R8_1_N rfl rfl ⟨_, rfl, .inl ⟨_, rfl, gq rfl rfl⟩⟩ ?_
          refine lk_skip (dt := some 29) R8_1_N rfl rfl ⟨_, rfl, .inl ⟨_, rfl, gq rfl rfl⟩⟩ ?_
          refine lk (dt := some 30) R8_1_N rfl rfl rfl (ov_pickT rfl rfl rfl rfl rfl rfl rfl) ?_
          refine aops_nil ?_
          refine ago_condE  E8_5 rfl rfl (fun h => ?_) (fun h => tf h)
          refine ago_seqE E8_6 ?_
          refine ago_cut (fun ρ => ρ 6 = p1 ∧ True) ⟨rfl, trivial⟩ (fun ρ ⟨h6, _⟩ => ?_)
          refine ago_regE E8_7 (l := [0, 1, 2]) rfl ?_
          refine lk (dt := some 31) R8_2_N rfl rfl rfl (ov_bld (r := [.int .i64 0, .int .i64 0, .int .i64 0, .int .u64 0, .int .i64 0, .int .u64 0, .int .u64 0, (.slice none 0 0), (.slice none 0 0), .int .u64 0, .int .u8 0, .int .i64 0, .int .i64 0, (.slice none 0 0), (.slice none 0 0), (.slice none 0 0)]) rfl rfl bo30 rfl (fillN rfl)) ?_
          obtain ⟨b140, i141, aw139, hp142, hw143, ho144, ha145, H⟩ := H
          refine lk (dt := none) R8_2_N rfl rfl rfl (ov_st rfl rfl rfl h6 rfl rfl sz30 hp142 hw143 ho144 ha145) ?_
          refine lk (dt := some 7) R8_2_N rfl rfl rfl (opv_assign rfl rfl rfl) ?_
          refine aops_nil ?_
          obtain ⟨b146, i147, hp148, c149, hg165, c150, hg166, c151, hg167, c152, hg168, c153, hg169, c154, hg170, c155, hg171, c156, hg172, c157, hg173, c158, hg174, c159, hg175, c160, hg176, c161, hg177, c162, hg178, c163, hg179, c164, hg180, H⟩ := H
          exact ago_retE E8_8 (r := (c149, c150, c151, c152, c153, c154, c155, c156, c157, c158, c159, c160, c161, c162, c163, c164, 1)) (ares_2 rfl (oneN h6 hp148 underlying30 rfl sz30 (getN_cons hg165 (getN_cons hg166 (getN_cons hg167 (getN_cons hg168 (getN_cons hg169 (getN_cons hg170 (getN_cons hg171 (getN_cons hg172 (getN_cons hg173 (getN_cons hg174 (getN_cons hg175 (getN_cons hg176 (getN_cons hg177 (getN_cons hg178 (getN_cons hg179 (getN_cons hg180 getN_nil))))))))))))))))) (oneT rfl)) rfl H
        · replace H := cnd_f H hb137
          refine lk (dt := some 24) R8_1_N rfl rfl ⟨_, rfl, .inl ⟨_, rfl, gq hb137 rfl⟩⟩ (opv_move rfl rfl h2) ?_
          refine lk (dt := some 25) R8_1_N rfl rfl ⟨_, rfl, .inl ⟨_, rfl, gq hb137 rfl⟩⟩ (opv_lt rfl rfl rfl rfl rfl) ?_
          refine lk (dt := some 26) R8_1_N rfl rfl rfl (ov_pickF rfl rfl rfl rfl rfl hb137 rfl) ?_
          refine lk (dt := some 27) R8_1_N rfl rfl rfl (opv_move rfl rfl rfl) ?_
          rcases Bool.eq_false_or_eq_true (decide (wait_2 < 2)) with hb181 | hb181
          · replace H := cnd_t H hb181
            refine lk_skip (dt := some 28) R8_1_N rfl rfl ⟨_, rfl, .inl ⟨_, rfl, gq hb181 rfl⟩⟩ ?_
            refine lk_skip (dt := some 29) R8_1_N rfl rfl ⟨_, rfl, .inl ⟨_, rfl, gq hb181 rfl⟩⟩ ?_
            refine lk (dt := some 30) R8_1_N rfl rfl rfl (ov_pickT rfl rfl rfl rfl rfl hb181 rfl) ?_
            refine aops_nil ?_
            refine ago_condE  E8_5 rfl rfl (fun h => ?_) (fun h => tf h)
            refine ago_seqE E8_6 ?_
            refine ago_cut (fun ρ => ρ 6 = p1 ∧ True) ⟨rfl, trivial⟩ (fun ρ ⟨h6, _⟩ => ?_)
            refine ago_regE E8_7 (l := [0, 1, 2]) rfl ?_
            refine lk (dt := some 31) R8_2_N rfl rfl rfl (ov_bld (r := [.int .i64 0, .int .i64 0, .int .i64 0, .int .u64 0, .int .i64 0, .int .u64 0, .int .u64 0, (.slice none 0 0), (.slice none 0 0), .int .u64 0, .int .u8 0, .int .i64 0, .int .i64 0, (.slice none 0 0), (.slice none 0 0), (.slice none 0 0)]) rfl rfl bo30 rfl (fillN rfl)) ?_
            obtain ⟨b184, i185, aw183, hp186, hw187, ho188, ha189, H⟩ := H
            refine lk (dt := none) R8_2_N rfl rfl rfl (ov_st rfl rfl rfl h6 rfl rfl sz30 hp186 hw187 ho188 ha189) ?_
            refine lk (dt := some 7) R8_2_N rfl rfl rfl (opv_assign rfl rfl rfl) ?_
            refine aops_nil ?_
            obtain ⟨b190, i191, hp192, c193, hg209, c194, hg210, c195, hg211, c196, hg212, c197, hg213, c198, hg214, c199, hg215, c200, hg216, c201, hg217, c202, hg218, c203, hg219, c204, hg220, c205, hg221, c206, hg222, c207, hg223, c208, hg224, H⟩ := H
            exact ago_retE E8_8 (r := (c193, c194, c195, c196, c197, c198, c199, c200, c201, c202, c203, c204, c205, c206, c207, c208, 1)) (ares_2 rfl (oneN h6 hp192 underlying30 rfl sz30 (getN_cons hg209 (getN_cons hg210 (getN_cons hg211 (getN_cons hg212 (getN_cons hg213 (getN_cons hg214 (getN_cons hg215 (getN_cons hg216 (getN_cons hg217 (getN_cons hg218 (getN_cons hg219 (getN_cons hg220 (getN_cons hg221 (getN_cons hg222 (getN_cons hg223 (getN_cons hg224 getN_nil))))))))))))))))) (oneT rfl)) rfl H
          · replace H := cnd_f H hb181
            refine lk (dt := some 28) R8_1_N rfl rfl ⟨_, rfl, .inl ⟨_, rfl, gq hb181 rfl⟩⟩ (opv_move rfl rfl h2) ?_
            refine lk (dt := some 29) R8_1_N rfl rfl ⟨_, rfl, .inl ⟨_, rfl, gq hb181 rfl⟩⟩ (opv_gt rfl rfl rfl rfl rfl) ?_
            refine lk (dt := some 30) R8_1_N rfl rfl rfl (ov_pickF rfl rfl rfl rfl rfl hb181 rfl) ?_
            refine aops_nil ?_
            refine ago_condE  E8_5 rfl rfl (fun hb225 => ?_) (fun hb225 => ?_)
            · replace H := cnd_t H hb225
              refine ago_seqE E8_6 ?_
              refine ago_cut (fun ρ => ρ 6 = p1 ∧ True) ⟨rfl, trivial⟩ (fun ρ ⟨h6, _⟩ => ?_)
              refine ago_regE E8_7 (l := [0, 1, 2]) rfl ?_
              refine lk (dt := some 31) R8_2_N rfl rfl rfl (ov_bld (r := [.int .i64 0, .int .i64 0, .int .i64 0, .int .u64 0, .int .i64 0, .int .u64 0, .int .u64 0, (.slice none 0 0), (.slice none 0 0), .int .u64 0, .int .u8 0, .int .i64 0, .int .i64 0, (.slice none 0 0), (.slice none 0 0), (.slice none 0 0)]) rfl rfl bo30 rfl (fillN rfl)) ?_
              obtain ⟨b227, i228, aw226, hp229, hw230, ho231, ha232, H⟩ := H
              refine lk (dt := none) R8_2_N rfl rfl rfl (ov_st rfl rfl rfl h6 rfl rfl sz30 hp229 hw230 ho231 ha232) ?_
              refine lk (dt := some 7) R8_2_N rfl rfl rfl (opv_assign rfl rfl rfl) ?_
              refine aops_nil ?_
              obtain ⟨b233, i234, hp235, c236, hg252, c237, hg253, c238, hg254, c239, hg255, c240, hg256, c241, hg257, c242, hg258, c243, hg259, c244, hg260, c245, hg261, c246, hg262, c247, hg263, c248, hg264, c249, hg265, c250, hg266, c251, hg267, H⟩ := H
              exact ago_retE E8_8 (r := (c236, c237, c238, c239, c240, c241, c242, c243, c244, c245, c246, c247, c248, c249, c250, c251, 1)) (ares_2 rfl (oneN h6 hp235 underlying30 rfl sz30 (getN_cons hg252 (getN_cons hg253 (getN_cons hg254 (getN_cons hg255 (getN_cons hg256 (getN_cons hg257 (getN_cons hg258 (getN_cons hg259 (getN_cons hg260 (getN_cons hg261 (getN_cons hg262 (getN_cons hg263 (getN_cons hg264 (getN_cons hg265 (getN_cons hg266 (getN_cons hg267 getN_nil))))))))))))))))) (oneT rfl)) rfl H
            replace H := cnd_f H hb225
            refine ago_skipE E8_9 ?_
            refine ago_seqE E8_10 ?_
            refine ago_cut (fun ρ => ρ 0 = .int .i64 n_0 ∧ ρ 1 = .int .i64 self_1 ∧ ρ 2 = .int .i64 wait_2 ∧ ρ 6 = p1 ∧ True) ⟨h0, h1, h2, rfl, trivial⟩ (fun ρ ⟨h0, h1, h2, h6, _⟩ => ?_)
            obtain ⟨p268, aw269, hq270, hq271, hq272, hq273, hq274, hq275, H⟩ := H
            obtain ⟨p276, aw277, hq278, hq279, hq280, hq281, hq282, hq283, H⟩ := H
            obtain ⟨p284, aw285, hq286, hq287, hq288, hq289, hq290, hq291, H⟩ := H
            refine ago_drawGH (p := [0, 1, 2, 3, 4, 6, 8]) (q := [0, 1, 2, 3]) (nh := [10]) (post := [(11, [], [12])]) (xs := [⟨5, 37, zeros [.bool false] (Int.toNat n_0), 4, 1, fun b => .slice (some ⟨b, 0, none⟩) (Int.toNat n_0) (Int.toNat n_0)⟩, ⟨7, 39, zeros [.int .u64 0] (Int.toNat n_0), 24, 1, fun b => .slice (some ⟨b, 0, none⟩) (Int.toNat n_0) (Int.toNat n_0)⟩, ⟨9, 41, zeros [.int .u64 0] (Int.toNat n_0), 24, 1, fun b => .slice (some ⟨b, 0, none⟩) (Int.toNat n_0) (Int.toNat n_0)⟩]) (hv := [(0, Value.int .i64 n_0), (1, Value.int .i64 self_1), (2, Value.int .i64 wait_2), (3, Value.int .i64 wait_2), (4, Value.int .i64 n_0), (6, Value.int .i64 n_0), (8, Value.int .i64 n_0)]) E8_11 mixed R8_3_N R8_3_O rfl (pv_cons rfl (pv_cons rfl (pv_cons rfl (pv_cons rfl (pv_cons rfl (pv_cons rfl (pv_cons rfl (pv_nil _))))))))
              (gmk_of fun F hF => by
                simp only [List.mem_cons, List.not_mem_nil, or_false] at hF
                rcases hF with rfl | rfl | rfl
                · exact ⟨_, rfl, makesR_mk rfl rfl rfl underlying27 sz4 by4 z4 rfl (by decide) rfl rfl rfl rfl hq270 hq271 hq272 hq273⟩
                · exact ⟨_, rfl, makesR_mk rfl rfl rfl underlying28 sz24 by24 z24 rfl (by decide) rfl rfl rfl rfl hq278 hq279 hq280 hq281⟩
                · exact ⟨_, rfl, makesR_mk rfl rfl rfl underlying28 sz24 by24 z24 rfl (by decide) rfl rfl rfl rfl hq286 hq287 hq288 hq289⟩
                )
              (ffc (d := 32) (v := .int .i64 n_0) (hd_v rfl fun ρ hρ => ⟨rfl, opv_move rfl rfl ((hρ 0 (lmem rfl)).trans h0)⟩) rfl rfl
              (ffc (d := 33) (v := .int .i64 self_1) (hd_v rfl fun ρ hρ => ⟨rfl, opv_move rfl rfl ((hρ 1 (lmem rfl)).trans h1)⟩) rfl rfl
              (ffc (d := 34) (v := .int .i64 wait_2) (hd_v rfl fun ρ hρ => ⟨rfl, opv_move rfl rfl ((hρ 2 (lmem rfl)).trans h2)⟩) rfl rfl
              (ffc (d := 35) (v := .int .i64 wait_2) (hd_v rfl fun ρ hρ => ⟨rfl, opv_move rfl rfl ((hρ 2 (lmem rfl)).trans h2)⟩) rfl rfl
              (ffc (d := 36) (v := .int .i64 n_0) (hd_v rfl fun ρ hρ => ⟨rfl, opv_move rfl rfl ((hρ 0 (lmem rfl)).trans h0)⟩) rfl rfl
              (ffc (d := 38) (v := .int .i64 n_0) (hd_v rfl fun ρ hρ => ⟨rfl, opv_move rfl rfl ((hρ 0 (lmem rfl)).trans h0)⟩) rfl rfl
              (ffc (d := 40) (v := .int .i64 n_0) (hd_v rfl fun ρ hρ => ⟨rfl, opv_move rfl rfl ((hρ 0 (lmem rfl)).trans h0)⟩) rfl rfl
              ffn))))))) ?_
            obtain ⟨h1292, H⟩ := H
            obtain ⟨h1293, H⟩ := H
            obtain ⟨h1294, H⟩ := H
            refine lg_next (aw' := aw285) (vs := [p268, p276, p284]) (l := [0, 1, 2, 3, 10]) (hv := [(10, Value.agg #[.int .i64 n_0, .int .i64 self_1, .int .i64 wait_2, .int .u64 0, .int .i64 (-1), .int .u64 0, .int .u64 0, (.slice none 0 0), (.slice none 0 0), .int .u64 0, .int .u8 0, .int .i64 (-1), .int .i64 wait_2, p268, p276, p284])]) rfl rfl (by rw [hq291, hq283, hq275]; rfl) (by rw [hq274, hq282, hq290, hq283, hq275]; rfl) (pv_cons rfl (pv_nil _))
              (ffc (d := 32) (v := .int .i64 n_0) (hd_v rfl fun ρ hρ => ⟨rfl, opv_move rfl rfl ((hρ 0 (lmem rfl)).trans h0)⟩) rfl rfl
              (ffc (d := 33) (v := .int .i64 self_1) (hd_v rfl fun ρ hρ => ⟨rfl, opv_move rfl rfl ((hρ 1 (lmem rfl)).trans h1)⟩) rfl rfl
              (ffc (d := 34) (v := .int .i64 wait_2) (hd_v rfl fun ρ hρ => ⟨rfl, opv_move rfl rfl ((hρ 2 (lmem rfl)).trans h2)⟩) rfl rfl
              (ffc (d := 35) (v := .int .i64 wait_2) (hd_v rfl fun ρ hρ => ⟨rfl, opv_move rfl rfl ((hρ 2 (lmem rfl)).trans h2)⟩) rfl rfl
              (ffc (d := 42) (v := .agg #[.int .i64 n_0, .int .i64 self_1, .int .i64 wait_2, .int .u64 0, .int .i64 (-1), .int .u64 0, .int .u64 0, (.slice none 0 0), (.slice none 0 0), .int .u64 0, .int .u8 0, .int .i64 (-1), .int .i64 wait_2, p268, p276, p284]) (hd_v rfl fun ρ hρ => ⟨rfl, ov_bld (r := [.int .i64 n_0, .int .i64 self_1, .int .i64 wait_2, .int .u64 0, .int .i64 (-1), .int .u64 0, .int .u64 0, (.slice none 0 0), (.slice none 0 0), .int .u64 0, .int .u8 0, .int .i64 (-1), .int .i64 wait_2, p268, p276, p284]) rfl rfl bo30 (mp_cons ((hρ 32 (lmem rfl)).trans rfl) (mp_cons ((hρ 33 (lmem rfl)).trans rfl) (mp_cons ((hρ 34 (lmem rfl)).trans rfl) (mp_cons rfl (mp_cons rfl (mp_cons ((hρ 35 (lmem rfl)).trans rfl) (mp_cons ((hρ 37 (lmem rfl)).trans rfl) (mp_cons ((hρ 39 (lmem rfl)).trans rfl) (mp_cons ((hρ 41 (lmem rfl)).trans rfl) rfl))))))))) (fillP rfl rfl rfl rfl (fillP rfl rfl rfl rfl (fillP rfl rfl rfl rfl (fillP rfl rfl rfl rfl (fillP rfl rfl rfl rfl (fillP rfl rfl rfl rfl (fillP (cells_one h1292) rfl rfl rfl (fillP (cells_one h1293) rfl rfl rfl (fillP (cells_one h1294) rfl rfl rfl (fillN rfl))))))))))⟩) rfl rfl
              ffn))))) ?_
            obtain ⟨b296, i297, aw295, hp298, hw299, ho300, ha301, H⟩ := H
            refine lt_val (dt := none) (v := undef) rfl rfl (fun ρ hρ => ⟨rfl, ov_st rfl rfl rfl ((hρ 6 (lmem rfl)).trans h6) ((hρ 42 (lmem rfl)).trans rfl) rfl sz30 hp298 hw299 ho300 ha301⟩) ?_
            refine lt_next (l := [12]) (hv := [(12, Value.int .i64 0)]) rfl rfl (pv_cons rfl (pv_nil _))
              (ffc (d := 7) (v := .int .i64 0) (hd_v rfl fun ρ hρ => ⟨rfl, opv_assign rfl rfl rfl⟩) rfl rfl
              ffn) ?_
            refine lt_end ?_
            obtain ⟨b302, i303, hp304, c305, hg321, c306, hg322, c307, hg323, c308, hg324, c309, hg325, c310, hg326, c311, hg327, c312, hg328, c313, hg329, c314, hg330, c315, hg331, c316, hg332, c317, hg333, c318, hg334, c319, hg335, c320, hg336, H⟩ := H
            exact ago_retE E8_12 (r := (c305, c306, c307, c308, c309, c310, c311, c312, c313, c314, c315, c316, c317, c318, c319, c320, 0)) (ares_2 rfl (oneN h6 hp304 underlying30 rfl sz30 (getN_cons hg321 (getN_cons hg322 (getN_cons hg323 (getN_cons hg324 (getN_cons hg325 (getN_cons hg326 (getN_cons hg327 (getN_cons hg328 (getN_cons hg329 (getN_cons hg330 (getN_cons hg331 (getN_cons hg332 (getN_cons hg333 (getN_cons hg334 (getN_cons hg335 (getN_cons hg336 getN_nil))))))))))))))))) (oneT rfl)) rfl H
theorem F8_ok {Q : (Int × Int × Int × Int × Int × Int × Int × Value × Value × Int × Int × Int × Int × Value × Value × Value × Int) → AW → Prop} {E : List PanicEntry → AW → Prop} (n_0 : Int) (self_1 : Int) (wait_2 : Int) (aw : AW) (H : S8_0 Q E n_0 self_1 wait_2 aw) : CallP prog 8 [.int .i64 n_0, .int .i64 self_1, .int .i64 wait_2] aw sh8 Q E :=
  callP_of func8 C8_is rfl (Nat.le_of_ble_eq_true rfl) (S8_0_ok Q E _ n_0 self_1 wait_2 aw rfl rfl rfl H)
def C9_0 : Code := bodyOf f9
theorem C9_is : f9.body = some C9_0 := by kernel_rfl
def C9_1 : Code := cl C9_0
def R9_0 : Array Oper := regOps C9_1
def C9_2 : Code := cr C9_0
def C9_3 : Code := cl C9_2
def C9_4 : Code := cl C9_3
def R9_1 : Array Oper := regOps C9_4
def C9_5 : Code := cr C9_3
def C9_6 : Code := cl C9_5
def C9_7 : Code := cl C9_6
def R9_2 : Array Oper := regOps C9_7
def C9_8 : Code := cr C9_6
def C9_9 : Code := cr C9_5
def C9_10 : Code := cr C9_2
def C9_11 : Code := cl C9_10
def R9_3 : Array Oper := regOps C9_11
def C9_12 : Code := cr C9_10
def C9_13 : Code := cl C9_12
def C9_14 : Code := cl C9_13
def R9_4 : Array Oper := regOps C9_14
def C9_15 : Code := cr C9_13
def C9_16 : Code := cl C9_15
def C9_17 : Code := cl C9_16
def R9_5 : Array Oper := regOps C9_17
def C9_18 : Code := cr C9_16
def C9_19 : Code := cl C9_18
def R9_6 : Array Oper := regOps C9_19
def C9_20 : Code := cr C9_18
def C9_21 : Code := cr C9_15
def C9_22 : Code := cr C9_12
def C9_23 : Code := cl C9_22
def C9_24 : Code := cl C9_23
def R9_7 : Array Oper := regOps C9_24
def C9_25 : Code := cr C9_23
def C9_26 : Code := cl C9_25
def R9_8 : Array Oper := regOps C9_26
def C9_27 : Code := cr C9_25
def C9_28 : Code := cl C9_27
def C9_29 : Code := cl C9_28
def R9_9 : Array Oper := regOps C9_29
def C9_30 : Code := cr C9_28
def C9_31 : Code := cr C9_27
def C9_32 : Code := cr C9_22
def C9_33 : Code := cl C9_32
def R9_10 : Array Oper := regOps C9_33
def C9_34 : Code := cr C9_32
def C9_35 : Code := cl C9_34
def R9_11 : Array Oper := regOps C9_35
def C9_36 : Code := cr C9_34
def C9_37 : Code := cl C9_36
def R9_12 : Array Oper := regOps C9_37
def C9_38 : Code := cr C9_36
def C9_39 : Code := cl C9_38
def R9_13 : Array Oper := regOps C9_39
def C9_40 : Code := cr C9_38
def C9_41 : Code := cl C9_40
def R9_14 : Array Oper := regOps C9_41
def C9_42 : Code := cr C9_40
def C9_43 : Code := cl C9_42
def R9_15 : Array Oper := regOps C9_43
def C9_44 : Code := cr C9_42
def C9_45 : Code := cl C9_44
def R9_16 : Array Oper := regOps C9_45
def C9_46 : Code := cr C9_44
def C9_47 : Code := cl C9_46
def R9_17 : Array Oper := regOps C9_47
def C9_48 : Code := cr C9_46
def C9_49 : Code := cl C9_48
def R9_18 : Array Oper := regOps C9_49
def C9_50 : Code := cr C9_48
theorem R9_0_N : dstsOk 130 R9_0 = true := by decide +kernel
theorem E9_1 : C9_1 = .region 0 R9_0 false := rfl
theorem R9_1_N : dstsOk 130 R9_1 = true := by decide +kernel
theorem E9_4 : C9_4 = .region 1 R9_1 false := rfl
theorem R9_2_N : dstsOk 130 R9_2 = true := by decide +kernel
theorem E9_7 : C9_7 = .region 2 R9_2 false := rfl
theorem E9_8 : C9_8 = .ret := rfl
theorem E9_6 : C9_6 = .seq C9_7 C9_8 := rfl
theorem E9_9 : C9_9 = .skip := rfl
theorem E9_5 : C9_5 = .cond (.tmp 11) C9_6 C9_9 := rfl
theorem E9_3 : C9_3 = .seq C9_4 C9_5 := rfl
theorem R9_3_N : dstsOk 130 R9_3 = true := by decide +kernel
theorem E9_11 : C9_11 = .region 3 R9_3 false := rfl
theorem R9_4_N : dstsOk 130 R9_4 = true := by decide +kernel
theorem E9_14 : C9_14 = .region 4 R9_4 false := rfl
theorem R9_5_N : dstsOk 130 R9_5 = true := by decide +kernel
theorem E9_17 : C9_17 = .region 5 R9_5 false := rfl
theorem R9_6_N : dstsOk 130 R9_6 = true := by decide +kernel
theorem R9_6_O : linOk R9_6 [0, 1, 2, 3, 4, 5, 6, 7] [(8, [4, 5, 6, 7], [9])] = true := by decide +kernel
theorem E9_19 : C9_19 = .region 6 R9_6 true := rfl
theorem E9_20 : C9_20 = .ret := rfl
theorem E9_18 : C9_18 = .seq C9_19 C9_20 := rfl
theorem E9_16 : C9_16 = .seq C9_17 C9_18 := rfl
theorem E9_21 : C9_21 = .skip := rfl
theorem E9_15 : C9_15 = .cond (.tmp 22) C9_16 C9_21 := rfl
theorem E9_13 : C9_13 = .seq C9_14 C9_15 := rfl
theorem R9_7_N : dstsOk 130 R9_7 = true := by decide +kernel
theorem E9_24 : C9_24 = .region 7 R9_7 false := rfl
theorem R9_8_N : dstsOk 130 R9_8 = true := by decide +kernel
theorem E9_26 : C9_26 = .region 8 R9_8 false := rfl
theorem R9_9_N : dstsOk 130 R9_9 = true := by decide +kernel
theorem E9_29 : C9_29 = .region 9 R9_9 false := rfl
theorem E9_30 : C9_30 = .ret := rfl
theorem E9_28 : C9_28 = .seq C9_29 C9_30 := rfl
theorem E9_31 : C9_31 = .skip := rfl
theorem E9_27 : C9_27 = .cond (.tmp 49) C9_28 C9_31 := rfl
theorem E9_25 : C9_25 = .seq C9_26 C9_27 := rfl
theorem E9_23 : C9_23 = .seq C9_24 C9_25 := rfl
theorem R9_10_N : dstsOk 130 R9_10 = true := by decide +kernel
theorem E9_33 : C9_33 = .region 10 R9_10 false := rfl
theorem R9_11_N : dstsOk 130 R9_11 = true := by decide +kernel
theorem R9_11_O : linOk R9_11 [0, 1, 2, 3, 4, 5, 6, 7, 8, 9, 10] [(11, [1, 2], [12, 13, 14]), (15, [2], [16, 17, 18]), (19, [], [])] = true := by decide +kernel
theorem E9_35 : C9_35 = .region 11 R9_11 true := rfl
theorem R9_12_N : dstsOk 130 R9_12 = true := by decide +kernel
theorem E9_37 : C9_37 = .region 12 R9_12 false := rfl
theorem R9_13_N : dstsOk 130 R9_13 = true := by decide +kernel
theorem R9_13_O : linOk R9_13 [0, 1, 2, 3, 4, 5] [(6, [0], [7, 8, 9]), (10, [], [])] = true := by decide +kernel
theorem E9_39 : C9_39 = .region 13 R9_13 true := rfl
theorem R9_14_N : dstsOk 130 R9_14 = true := by decide +kernel
theorem R9_14_O : linOk R9_14 [0, 1, 2, 3, 4, 5, 6, 7, 8, 9, 10] [(11, [], [])] = true := by decide +kernel
theorem E9_41 : C9_41 = .region 14 R9_14 true := rfl
theorem R9_15_N : dstsOk 130 R9_15 = true := by decide +kernel
theorem R9_15_O : linXOk R9_15 13 7 [0, 1, 2, 3, 4, 5, 6, 7] [(8, [0, 1, 2, 3], []), (9, [], [10, 11, 12])] [10, 11, 12] [] [(14, [12], [15])] = true := by decide +kernel
theorem E9_43 : C9_43 = .region 15 R9_15 true := rfl
theorem R9_16_N : dstsOk 130 R9_16 = true := by decide +kernel
theorem E9_45 : C9_45 = .region 16 R9_16 false := rfl
theorem R9_17_N : dstsOk 130 R9_17 = true := by decide +kernel
theorem E9_47 : C9_47 = .region 17 R9_17 false := rfl
theorem R9_18_N : dstsOk 130 R9_18 = true := by decide +kernel
theorem R9_18_O : linOk R9_18 [0, 1, 2, 3, 4, 5, 6, 7] [(8, [4, 5, 6, 7], [9])] = true := by decide +kernel
theorem E9_49 : C9_49 = .region 18 R9_18 true := rfl
theorem E9_50 : C9_50 = .ret := rfl
theorem E9_48 : C9_48 = .seq C9_49 C9_50 := rfl
theorem E9_46 : C9_46 = .seq C9_47 C9_48 := rfl
theorem E9_44 : C9_44 = .seq C9_45 C9_46 := rfl
theorem E9_42 : C9_42 = .seq C9_43 C9_44 := rfl
theorem E9_40 : C9_40 = .seq C9_41 C9_42 := rfl
theorem E9_38 : C9_38 = .seq C9_39 C9_40 := rfl
theorem E9_36 : C9_36 = .seq C9_37 C9_38 := rfl
theorem E9_34 : C9_34 = .seq C9_35 C9_36 := rfl
theorem E9_32 : C9_32 = .seq C9_33 C9_34 := rfl
theorem E9_22 : C9_22 = .seq C9_23 C9_32 := rfl
theorem E9_12 : C9_12 = .seq C9_13 C9_22 := rfl
theorem E9_10 : C9_10 = .seq C9_11 C9_12 := rfl
theorem E9_2 : C9_2 = .seq C9_3 C9_10 := rfl
theorem E9_0 : C9_0 = .seq C9_1 C9_2 := rfl
def S9_0 (Q : (Int × Int × Int × Int × Int × Int × Int × Value × Value × Int × Int × Int × Int × Value × Value × Value × Value) → AW → Prop) (E : List PanicEntry → AW → Prop)  (s_0_0 : Int) (s_0_1 : Int) (s_0_2 : Int) (s_0_3 : Int) (s_0_4 : Int) (s_0_5 : Int) (s_0_6 : Int) (s_0_7 : Value) (s_0_8 : Value) (s_0_9 : Int) (s_0_10 : Int) (s_0_11 : Int) (s_0_12 : Int) (s_0_13 : Value) (s_0_14 : Value) (s_0_15 : Value) (draw_1 : Int) (aw : AW) : Prop :=
  alc aw [.int .i64 s_0_0, .int .i64 s_0_1, .int .i64 s_0_2, .int .u64 s_0_3, .int .i64 s_0_4, .int .u64 s_0_5, .int .u64 s_0_6, s_0_7, s_0_8, .int .u64 s_0_9, .int .u8 s_0_10, .int .i64 s_0_11, .int .i64 s_0_12, s_0_13, s_0_14, s_0_15] 30 0 fun p1 aw2 =>
  alc aw2 [.int .i64 0, .int .i64 0, .int .i64 0, .int .u64 0, .int .i64 0, .int .u64 0, .int .u64 0, (.slice none 0 0), (.slice none 0 0), .int .u64 0, .int .u8 0, .int .i64 0, .int .i64 0, (.slice none 0 0), (.slice none 0 0), (.slice none 0 0)] 30 0 fun p5 aw6 =>
  fldA p1 0 fun p9 =>
  ldI .i64 aw6 p9 fun x17 =>
  cnd (decide (x17 = 0)) (ptr p1 fun b20 i21 =>
  gI .i64 aw6 b20 i21 fun c23 =>
  gI .i64 aw6 b20 (i21 + 1) fun c24 =>
  gI .i64 aw6 b20 (i21 + 2) fun c25 =>
  gI .u64 aw6 b20 (i21 + 3) fun c26 =>
  gI .i64 aw6 b20 (i21 + 4) fun c27 =>
  gI .u64 aw6 b20 (i21 + 5) fun c28 =>
  gI .u64 aw6 b20 (i21 + 6) fun c29 =>
  gV aw6 b20 (i21 + 7) fun c30 =>
  gV aw6 b20 (i21 + 8) fun c31 =>
  gI .u64 aw6 b20 (i21 + 9) fun c32 =>
  gI .u8 aw6 b20 (i21 + 10) fun c33 =>
  gI .i64 aw6 b20 (i21 + 11) fun c34 =>
  gI .i64 aw6 b20 (i21 + 12) fun c35 =>
  gV aw6 b20 (i21 + 13) fun c36 =>
  gV aw6 b20 (i21 + 14) fun c37 =>
  gV aw6 b20 (i21 + 15) fun c38 =>
  st aw6 p5 [.int .i64 c23, .int .i64 c24, .int .i64 c25, .int .u64 c26, .int .i64 c27, .int .u64 c28, .int .u64 c29, c30, c31, .int .u64 c32, .int .u8 c33, .int .i64 c34, .int .i64 c35, c36, c37, c38] fun aw55 =>
  ptr p5 fun b62 i63 => gI .i64 aw55 b62 i63 fun c65 => gI .i64 aw55 b62 (i63 + 1) fun c66 => gI .i64 aw55 b62 (i63 + 2) fun c67 => gI .u64 aw55 b62 (i63 + 3) fun c68 => gI .i64 aw55 b62 (i63 + 4) fun c69 => gI .u64 aw55 b62 (i63 + 5) fun c70 => gI .u64 aw55 b62 (i63 + 6) fun c71 => gV aw55 b62 (i63 + 7) fun c72 => gV aw55 b62 (i63 + 8) fun c73 => gI .u64 aw55 b62 (i63 + 9) fun c74 => gI .u8 aw55 b62 (i63 + 10) fun c75 => gI .i64 aw55 b62 (i63 + 11) fun c76 => gI .i64 aw55 b62 (i63 + 12) fun c77 => gV aw55 b62 (i63 + 13) fun c78 => gV aw55 b62 (i63 + 14) fun c79 => gV aw55 b62 (i63 + 15) fun c80 => Q (c65, c66, c67, c68, c69, c70, c71, c72, c73, c74, c75, c76, c77, c78, c79, c80, (.slice none 0 0)) aw55) (ptr p1 fun b97 i98 =>
  gI .i64 aw6 b97 i98 fun c100 =>
  gI .i64 aw6 b97 (i98 + 1) fun c101 =>
  gI .i64 aw6 b97 (i98 + 2) fun c102 =>
  gI .u64 aw6 b97 (i98 + 3) fun c103 =>
  gI .i64 aw6 b97 (i98 + 4) fun c104 =>
  gI .u64 aw6 b97 (i98 + 5) fun c105 =>
  gI .u64 aw6 b97 (i98 + 6) fun c106 =>
  gV aw6 b97 (i98 + 7) fun c107 =>
  gV aw6 b97 (i98 + 8) fun c108 =>
  gI .u64 aw6 b97 (i98 + 9) fun c109 =>
  gI .u8 aw6 b97 (i98 + 10) fun c110 =>
  gI .i64 aw6 b97 (i98 + 11) fun c111 =>
  gI .i64 aw6 b97 (i98 + 12) fun c112 =>
  gV aw6 b97 (i98 + 13) fun c113 =>
  gV aw6 b97 (i98 + 14) fun c114 =>
  gV aw6 b97 (i98 + 15) fun c115 =>
  CallP prog 23 [.agg #[.int .i64 c100, .int .i64 c101, .int .i64 c102, .int .u64 c103, .int .i64 c104, .int .u64 c105, .int .u64 c106, c107, c108, .int .u64 c109, .int .u8 c110, .int .i64 c111, .int .i64 c112, c113, c114, c115]] aw6 sh23 (fun r132 aw133 =>
  alc aw133 [.int .i64 r132.1, .int .i64 r132.2.1, .int .i64 r132.2.2.1, .int .u64 r132.2.2.2.1, .int .i64 r132.2.2.2.2.1, .int .u64 r132.2.2.2.2.2.1, .int .u64 r132.2.2.2.2.2.2.1, r132.2.2.2.2.2.2.2.1, r132.2.2.2.2.2.2.2.2.1, .int .u64 r132.2.2.2.2.2.2.2.2.2.1, .int .u8 r132.2.2.2.2.2.2.2.2.2.2.1, .int .i64 r132.2.2.2.2.2.2.2.2.2.2.2.1, .int .i64 r132.2.2.2.2.2.2.2.2.2.2.2.2.1, r132.2.2.2.2.2.2.2.2.2.2.2.2.2.1, r132.2.2.2.2.2.2.2.2.2.2.2.2.2.2.1, r132.2.2.2.2.2.2.2.2.2.2.2.2.2.2.2, (.slice none 0 0)] 76 0 fun p134 aw135 =>
  alc aw135 [(.pointer none)] 73 0 fun p138 aw139 =>
  st aw139 p138 [p134] fun aw142 =>
  ldV aw142 p138 fun x152 =>
  nck x152 (fldA x152 0 fun p155 =>
  fldA p155 10 fun p160 =>
  ldI .u8 aw142 p160 fun x168 =>
  cnd (decide (x168 = 2)) (ldV aw142 p138 fun x174 =>
  ldV aw142 p138 fun x179 =>
  CallP prog 24 [x174, (.func (.func 25) #[x179] #[])] aw142 sh24 (fun r181 aw182 =>
  ldV aw182 p138 fun x186 =>
  nck x186 (fldA x186 0 fun p189 =>
  ptr p189 fun b194 i195 =>
  gI .i64 aw182 b194 i195 fun c197 =>
  gI .i64 aw182 b194 (i195 + 1) fun c198 =>
  gI .i64 aw182 b194 (i195 + 2) fun c199 =>
  gI .u64 aw182 b194 (i195 + 3) fun c200 =>
  gI .i64 aw182 b194 (i195 + 4) fun c201 =>
  gI .u64 aw182 b194 (i195 + 5) fun c202 =>
  gI .u64 aw182 b194 (i195 + 6) fun c203 =>
  gV aw182 b194 (i195 + 7) fun c204 =>
  gV aw182 b194 (i195 + 8) fun c205 =>
  gI .u64 aw182 b194 (i195 + 9) fun c206 =>
  gI .u8 aw182 b194 (i195 + 10) fun c207 =>
  gI .i64 aw182 b194 (i195 + 11) fun c208 =>
  gI .i64 aw182 b194 (i195 + 12) fun c209 =>
  gV aw182 b194 (i195 + 13) fun c210 =>
  gV aw182 b194 (i195 + 14) fun c211 =>
  gV aw182 b194 (i195 + 15) fun c212 =>
  ldV aw182 p138 fun x232 =>
  nck x232 (fldA x232 16 fun p235 =>
  ldV aw182 p235 fun x243 =>
  st aw182 p5 [.int .i64 c197, .int .i64 c198, .int .i64 c199, .int .u64 c200, .int .i64 c201, .int .u64 c202, .int .u64 c203, c204, c205, .int .u64 c206, .int .u8 c207, .int .i64 c208, .int .i64 c209, c210, c211, c212] fun aw245 =>
  again1 aw245 p138 (x232) ∧ again1 aw245 p235 (x243) ∧ ptr p5 fun b252 i253 => gI .i64 aw245 b252 i253 fun c255 => gI .i64 aw245 b252 (i253 + 1) fun c256 => gI .i64 aw245 b252 (i253 + 2) fun c257 => gI .u64 aw245 b252 (i253 + 3) fun c258 => gI .i64 aw245 b252 (i253 + 4) fun c259 => gI .u64 aw245 b252 (i253 + 5) fun c260 => gI .u64 aw245 b252 (i253 + 6) fun c261 => gV aw245 b252 (i253 + 7) fun c262 => gV aw245 b252 (i253 + 8) fun c263 => gI .u64 aw245 b252 (i253 + 9) fun c264 => gI .u8 aw245 b252 (i253 + 10) fun c265 => gI .i64 aw245 b252 (i253 + 11) fun c266 => gI .i64 aw245 b252 (i253 + 12) fun c267 => gV aw245 b252 (i253 + 13) fun c268 => gV aw245 b252 (i253 + 14) fun c269 => gV aw245 b252 (i253 + 15) fun c270 => Q (c255, c256, c257, c258, c259, c260, c261, c262, c263, c264, c265, c266, c267, c268, c269, c270, x243) aw245))) E) (ldV aw142 p138 fun x290 =>
  nck x290 (fldA x290 0 fun p293 =>
  fldA p293 12 fun p298 =>
  ldI .i64 aw142 p298 fun x306 =>
  nck x290 (fldA x290 0 fun p309 =>
  fldA p309 12 fun p314 =>
  st aw142 p314 [.int .i64 (IntKind.i64.wrap (x306 - 1))] fun aw319 =>
  ldV aw319 p138 fun x329 =>
  nck x329 (fldA x329 0 fun p332 =>
  fldA p332 12 fun p337 =>
  ldI .i64 aw319 p337 fun x345 =>
  cnd (decide (0 < x345)) (ldV aw319 p138 fun x351 =>
  nck x351 (fldA x351 0 fun p354 =>
  ptr p354 fun b359 i360 =>
  gI .i64 aw319 b359 i360 fun c362 =>
  gI .i64 aw319 b359 (i360 + 1) fun c363 =>
  gI .i64 aw319 b359 (i360 + 2) fun c364 =>
  gI .u64 aw319 b359 (i360 + 3) fun c365 =>
  gI .i64 aw319 b359 (i360 + 4) fun c366 =>
  gI .u64 aw319 b359 (i360 + 5) fun c367 =>
  gI .u64 aw319 b359 (i360 + 6) fun c368 =>
  gV aw319 b359 (i360 + 7) fun c369 =>
  gV aw319 b359 (i360 + 8) fun c370 =>
  gI .u64 aw319 b359 (i360 + 9) fun c371 =>
  gI .u8 aw319 b359 (i360 + 10) fun c372 =>
  gI .i64 aw319 b359 (i360 + 11) fun c373 =>
  gI .i64 aw319 b359 (i360 + 12) fun c374 =>
  gV aw319 b359 (i360 + 13) fun c375 =>
  gV aw319 b359 (i360 + 14) fun c376 =>
  gV aw319 b359 (i360 + 15) fun c377 =>
  st aw319 p5 [.int .i64 c362, .int .i64 c363, .int .i64 c364, .int .u64 c365, .int .i64 c366, .int .u64 c367, .int .u64 c368, c369, c370, .int .u64 c371, .int .u8 c372, .int .i64 c373, .int .i64 c374, c375, c376, c377] fun aw394 =>
  ptr p5 fun b401 i402 => gI .i64 aw394 b401 i402 fun c404 => gI .i64 aw394 b401 (i402 + 1) fun c405 => gI .i64 aw394 b401 (i402 + 2) fun c406 => gI .u64 aw394 b401 (i402 + 3) fun c407 => gI .i64 aw394 b401 (i402 + 4) fun c408 => gI .u64 aw394 b401 (i402 + 5) fun c409 => gI .u64 aw394 b401 (i402 + 6) fun c410 => gV aw394 b401 (i402 + 7) fun c411 => gV aw394 b401 (i402 + 8) fun c412 => gI .u64 aw394 b401 (i402 + 9) fun c413 => gI .u8 aw394 b401 (i402 + 10) fun c414 => gI .i64 aw394 b401 (i402 + 11) fun c415 => gI .i64 aw394 b401 (i402 + 12) fun c416 => gV aw394 b401 (i402 + 13) fun c417 => gV aw394 b401 (i402 + 14) fun c418 => gV aw394 b401 (i402 + 15) fun c419 => Q (c404, c405, c406, c407, c408, c409, c410, c411, c412, c413, c414, c415, c416, c417, c418, c419, (.slice none 0 0)) aw394)) (ldV aw319 p138 fun x439 =>
  nck x439 (fldA x439 0 fun p442 =>
  fldA p442 3 fun p447 =>
  ldI .u64 aw319 p447 fun x455 =>
  nck x439 (fldA x439 0 fun p458 =>
  fldA p458 3 fun p463 =>
  st aw319 p463 [.int .u64 (IntKind.u64.wrap (x455 + 1))] fun aw468 =>
  ldV aw468 p138 fun x478 =>
  ldV aw468 p138 fun x483 =>
  ldV aw468 p138 fun x488 =>
  ldV aw468 p138 fun x493 =>
  nck x493 (fldA x493 0 fun p496 =>
  fldA p496 1 fun p501 =>
  ldI .i64 aw468 p501 fun x509 =>
  nck x478 (fldA x478 0 fun p512 =>
  fldA p512 4 fun p517 =>
  st aw468 p517 [.int .i64 x509] fun aw522 =>
  again1 aw522 p138 (x483) ∧ again1 aw522 p138 (x488) ∧ nck x483 (fldA x483 0 fun p530 =>
  fldA p530 10 fun p535 =>
  st aw522 p535 [.int .u8 1] fun aw540 =>
  again1 aw540 p138 (x488) ∧ nck x488 (fldA x488 0 fun p548 =>
  fldA p548 11 fun p553 =>
  st aw540 p553 [.int .i64 (-1)] fun aw558 =>
  ldV aw558 p138 fun x568 =>
  CallP prog 26 [x568, .int .i64 draw_1] aw558 sh26 (fun r570 aw571 =>
  ldV aw571 p138 fun x575 =>
  ldV aw571 p138 fun x580 =>
  nck x580 (fldA x580 0 fun p583 =>
  fldA p583 0 fun p588 =>
  ldI .i64 aw571 p588 fun x596 =>
  mk aw571 4 1 1 [.bool false] x596 x596 fun p598 aw599 =>
  again1 aw599 p138 (x575) ∧ nck x575 (fldA x575 0 fun p607 =>
  fldA p607 13 fun p612 =>
  st aw599 p612 [p598] fun aw617 =>
  ldV aw617 p138 fun x627 =>
  nck x627 (fldA x627 0 fun p630 =>
  fldA p630 13 fun p635 =>
  ldV aw617 p635 fun x643 =>
  ldV aw617 p138 fun x648 =>
  nck x648 (fldA x648 0 fun p651 =>
  fldA p651 1 fun p656 =>
  ldI .i64 aw617 p656 fun x664 =>
  ixS x643 x664 1 fun p666 =>
  st aw617 p666 [.bool true] fun aw675 =>
  ldV aw675 p138 fun x685 =>
  nck x685 (fldA x685 0 fun p688 =>
  ptr p688 fun b693 i694 =>
  gI .i64 aw675 b693 i694 fun c696 =>
  gI .i64 aw675 b693 (i694 + 1) fun c697 =>
  gI .i64 aw675 b693 (i694 + 2) fun c698 =>
  gI .u64 aw675 b693 (i694 + 3) fun c699 =>
  gI .i64 aw675 b693 (i694 + 4) fun c700 =>
  gI .u64 aw675 b693 (i694 + 5) fun c701 =>
  gI .u64 aw675 b693 (i694 + 6) fun c702 =>
  gV aw675 b693 (i694 + 7) fun c703 =>
  gV aw675 b693 (i694 + 8) fun c704 =>
  gI .u64 aw675 b693 (i694 + 9) fun c705 =>
  gI .u8 aw675 b693 (i694 + 10) fun c706 =>
  gI .i64 aw675 b693 (i694 + 11) fun c707 =>
  gI .i64 aw675 b693 (i694 + 12) fun c708 =>
  gV aw675 b693 (i694 + 13) fun c709 =>
  gV aw675 b693 (i694 + 14) fun c710 =>
  gV aw675 b693 (i694 + 15) fun c711 =>
  ldV aw675 p138 fun x731 =>
  nck x731 (fldA x731 0 fun p734 =>
  ptr p734 fun b739 i740 =>
  gI .i64 aw675 b739 i740 fun c742 =>
  gI .i64 aw675 b739 (i740 + 1) fun c743 =>
  gI .i64 aw675 b739 (i740 + 2) fun c744 =>
  gI .u64 aw675 b739 (i740 + 3) fun c745 =>
  gI .i64 aw675 b739 (i740 + 4) fun c746 =>
  gI .u64 aw675 b739 (i740 + 5) fun c747 =>
  gI .u64 aw675 b739 (i740 + 6) fun c748 =>
  gV aw675 b739 (i740 + 7) fun c749 =>
  gV aw675 b739 (i740 + 8) fun c750 =>
  gI .u64 aw675 b739 (i740 + 9) fun c751 =>
  gI .u8 aw675 b739 (i740 + 10) fun c752 =>
  gI .i64 aw675 b739 (i740 + 11) fun c753 =>
  gI .i64 aw675 b739 (i740 + 12) fun c754 =>
  gV aw675 b739 (i740 + 13) fun c755 =>
  gV aw675 b739 (i740 + 14) fun c756 =>
  gV aw675 b739 (i740 + 15) fun c757 =>
  CallP prog 22 [.agg #[.int .i64 c742, .int .i64 c743, .int .i64 c744, .int .u64 c745, .int .i64 c746, .int .u64 c747, .int .u64 c748, c749, c750, .int .u64 c751, .int .u8 c752, .int .i64 c753, .int .i64 c754, c755, c756, c757]] aw675 sh22 (fun r774 aw775 =>
  again1 aw775 p138 (x685) ∧ aw775.get b693 i694 = some (.int .i64 c696) ∧ aw775.get b693 (i694 + 1) = some (.int .i64 c697) ∧ aw775.get b693 (i694 + 2) = some (.int .i64 c698) ∧ aw775.get b693 (i694 + 3) = some (.int .u64 c699) ∧ aw775.get b693 (i694 + 4) = some (.int .i64 c700) ∧ aw775.get b693 (i694 + 5) = some (.int .u64 c701) ∧ aw775.get b693 (i694 + 6) = some (.int .u64 c702) ∧ aw775.get b693 (i694 + 7) = some (c703) ∧ aw775.get b693 (i694 + 8) = some (c704) ∧ aw775.get b693 (i694 + 9) = some (.int .u64 c705) ∧ aw775.get b693 (i694 + 10) = some (.int .u8 c706) ∧ aw775.get b693 (i694 + 11) = some (.int .i64 c707) ∧ aw775.get b693 (i694 + 12) = some (.int .i64 c708) ∧ aw775.get b693 (i694 + 13) = some (c709) ∧ aw775.get b693 (i694 + 14) = some (c710) ∧ aw775.get b693 (i694 + 15) = some (c711) ∧ CallP prog 27 [.agg #[.int .i64 c696, .int .i64 c697, .int .i64 c698, .int .u64 c699, .int .i64 c700, .int .u64 c701, .int .u64 c702, c703, c704, .int .u64 c705, .int .u8 c706, .int .i64 c707, .int .i64 c708, c709, c710, c711], .int .u64 r774] aw775 sh27 (fun r776 aw777 =>
  RoOk aw675 aw777 ∧ alc aw777 [.int .u64 0] 24 0 fun p779 aw780 =>
  st aw780 p779 [.int .u64 r776.1] fun aw783 =>
  ldV aw783 p138 fun x793 =>
  CallP prog 24 [x793, (.func (.func 28) #[] #[p138, p779])] aw783 sh24 (fun r795 aw796 =>
  ldV aw796 p138 fun x800 =>
  CallP prog 30 [x800] aw796 sh30 (fun r802 aw803 =>
  ldV aw803 p138 fun x807 =>
  nck x807 (fldA x807 0 fun p810 =>
  ptr p810 fun b815 i816 =>
  gI .i64 aw803 b815 i816 fun c818 =>
  gI .i64 aw803 b815 (i816 + 1) fun c819 =>
  gI .i64 aw803 b815 (i816 + 2) fun c820 =>
  gI .u64 aw803 b815 (i816 + 3) fun c821 =>
  gI .i64 aw803 b815 (i816 + 4) fun c822 =>
  gI .u64 aw803 b815 (i816 + 5) fun c823 =>
  gI .u64 aw803 b815 (i816 + 6) fun c824 =>
  gV aw803 b815 (i816 + 7) fun c825 =>
  gV aw803 b815 (i816 + 8) fun c826 =>
  gI .u64 aw803 b815 (i816 + 9) fun c827 =>
  gI .u8 aw803 b815 (i816 + 10) fun c828 =>
  gI .i64 aw803 b815 (i816 + 11) fun c829 =>
  gI .i64 aw803 b815 (i816 + 12) fun c830 =>
  gV aw803 b815 (i816 + 13) fun c831 =>
  gV aw803 b815 (i816 + 14) fun c832 =>
  gV aw803 b815 (i816 + 15) fun c833 =>
  ldV aw803 p138 fun x853 =>
  nck x853 (fldA x853 16 fun p856 =>
  ldV aw803 p856 fun x864 =>
  st aw803 p5 [.int .i64 c818, .int .i64 c819, .int .i64 c820, .int .u64 c821, .int .i64 c822, .int .u64 c823, .int .u64 c824, c825, c826, .int .u64 c827, .int .u8 c828, .int .i64 c829, .int .i64 c830, c831, c832, c833] fun aw866 =>
  again1 aw866 p138 (x853) ∧ again1 aw866 p856 (x864) ∧ ptr p5 fun b873 i874 => gI .i64 aw866 b873 i874 fun c876 => gI .i64 aw866 b873 (i874 + 1) fun c877 => gI .i64 aw866 b873 (i874 + 2) fun c878 => gI .u64 aw866 b873 (i874 + 3) fun c879 => gI .i64 aw866 b873 (i874 + 4) fun c880 => gI .u64 aw866 b873 (i874 + 5) fun c881 => gI .u64 aw866 b873 (i874 + 6) fun c882 => gV aw866 b873 (i874 + 7) fun c883 => gV aw866 b873 (i874 + 8) fun c884 => gI .u64 aw866 b873 (i874 + 9) fun c885 => gI .u8 aw866 b873 (i874 + 10) fun c886 => gI .i64 aw866 b873 (i874 + 11) fun c887 => gI .i64 aw866 b873 (i874 + 12) fun c888 => gV aw866 b873 (i874 + 13) fun c889 => gV aw866 b873 (i874 + 14) fun c890 => gV aw866 b873 (i874 + 15) fun c891 => Q (c876, c877, c878, c879, c880, c881, c882, c883, c884, c885, c886, c887, c888, c889, c890, c891, x864) aw866))) E) E) (fun _ _ => False)) (fun _ _ => False)))))))) E))))))))))))) E)
theorem S9_0_ok (Q : (Int × Int × Int × Int × Int × Int × Int × Value × Value × Int × Int × Int × Int × Value × Value × Value × Value) → AW → Prop) (E : List PanicEntry → AW → Prop)  (ρ : Env) (s_0_0 : Int) (s_0_1 : Int) (s_0_2 : Int) (s_0_3 : Int) (s_0_4 : Int) (s_0_5 : Int) (s_0_6 : Int) (s_0_7 : Value) (s_0_8 : Value) (s_0_9 : Int) (s_0_10 : Int) (s_0_11 : Int) (s_0_12 : Int) (s_0_13 : Value) (s_0_14 : Value) (s_0_15 : Value) (draw_1 : Int) (aw : AW) (h0 : ρ 0 = .agg #[.int .i64 s_0_0, .int .i64 s_0_1, .int .i64 s_0_2, .int .u64 s_0_3, .int .i64 s_0_4, .int .u64 s_0_5, .int .u64 s_0_6, s_0_7, s_0_8, .int .u64 s_0_9, .int .u8 s_0_10, .int .i64 s_0_11, .int .i64 s_0_12, s_0_13, s_0_14, s_0_15]) (h1 : ρ 1 = .int .i64 draw_1) (H : S9_0 Q E  s_0_0 s_0_1 s_0_2 s_0_3 s_0_4 s_0_5 s_0_6 s_0_7 s_0_8 s_0_9 s_0_10 s_0_11 s_0_12 s_0_13 s_0_14 s_0_15 draw_1 aw) :
    AGo prog 130 [.code C9_0] ρ [] aw (RR prog f9 130 sh9 Q E) := by
  unfold S9_0 at H
  refine ago_seqE E9_0 ?_
  refine ago_regE E9_1 (l := [0, 1, 2]) rfl ?_
  obtain ⟨p1, aw2, hp3, ha4, H⟩ := H
  refine lk (dt := some 2) R9_0_N rfl rfl rfl (ov_box rfl rfl h0 rfl hp3 ha4) ?_
  obtain ⟨p5, aw6, hp7, ha8, H⟩ := H
  refine lk (dt := some 4) R9_0_N rfl rfl rfl (ov_alloc rfl z30 rfl rfl hp7 ha8) ?_
  refine lk (dt := some 5) R9_0_N rfl rfl rfl (opv_assign rfl rfl rfl) ?_
  refine aops_nil ?_
  refine ago_seqE E9_2 ?_
  refine ago_seqE E9_3 ?_
  refine ago_regE E9_4 (l := [0, 1, 2]) rfl ?_
  obtain ⟨b10, i11, p9, hp12, hv13, H⟩ := H
  refine lk (dt := some 9) R9_1_N rfl rfl rfl (ov_fldA rfl rfl underlying30 rfl sz3 (by decide) rfl hp12 rfl hv13) ?_
  obtain ⟨b14, i15, x17, hp16, hg18, H⟩ := H
  refine lk (dt := some 10) R9_1_N rfl rfl rfl (ov_ldI rfl underlying3 rfl rfl hp16 hg18) ?_
  refine lk (dt := some 11) R9_1_N rfl rfl rfl (opv_eqI rfl rfl rfl rfl rfl) ?_
  refine aops_nil ?_
  refine ago_condE  E9_5 rfl rfl (fun hb19 => ?_) (fun hb19 => ?_)
  · replace H := cnd_t H hb19
    refine ago_seqE E9_6 ?_
    refine ago_regE E9_7 (l := [0, 1, 2]) rfl ?_
    obtain ⟨b20, i21, hp22, c23, hg39, c24, hg40, c25, hg41, c26, hg42, c27, hg43, c28, hg44, c29, hg45, c30, hg46, c31, hg47, c32, hg48, c33, hg49, c34, hg50, c35, hg51, c36, hg52, c37, hg53, c38, hg54, H⟩ := H
    refine lk (dt := some 12) R9_2_N rfl rfl rfl (ov_ldN rfl underlying30 rfl sz30 rfl rfl hp22 (getN_cons hg39 (getN_cons hg40 (getN_cons hg41 (getN_cons hg42 (getN_cons hg43 (getN_cons hg44 (getN_cons hg45 (getN_cons hg46 (getN_cons hg47 (getN_cons hg48 (getN_cons hg49 (getN_cons hg50 (getN_cons hg51 (getN_cons hg52 (getN_cons hg53 (getN_cons hg54 getN_nil))))))))))))))))) ?_
    obtain ⟨b56, i57, aw55, hp58, hw59, ho60, ha61, H⟩ := H
    refine lk (dt := none) R9_2_N rfl rfl rfl (ov_st rfl rfl rfl rfl rfl rfl sz30 hp58 hw59 ho60 ha61) ?_
    refine lk (dt := some 5) R9_2_N rfl rfl rfl (opv_assign rfl rfl rfl) ?_
    refine aops_nil ?_
    obtain ⟨b62, i63, hp64, c65, hg81, c66, hg82, c67, hg83, c68, hg84, c69, hg85, c70, hg86, c71, hg87, c72, hg88, c73, hg89, c74, hg90, c75, hg91, c76, hg92, c77, hg93, c78, hg94, c79, hg95, c80, hg96, H⟩ := H
    exact ago_retE E9_8 (r := (c65, c66, c67, c68, c69, c70, c71, c72, c73, c74, c75, c76, c77, c78, c79, c80, (.slice none 0 0))) (ares_2 rfl (oneN rfl hp64 underlying30 rfl sz30 (getN_cons hg81 (getN_cons hg82 (getN_cons hg83 (getN_cons hg84 (getN_cons hg85 (getN_cons hg86 (getN_cons hg87 (getN_cons hg88 (getN_cons hg89 (getN_cons hg90 (getN_cons hg91 (getN_cons hg92 (getN_cons hg93 (getN_cons hg94 (getN_cons hg95 (getN_cons hg96 getN_nil))))))))))))))))) (oneT rfl)) rfl H
  replace H := cnd_f H hb19
  refine ago_skipE E9_9 ?_
  refine ago_seqE E9_10 ?_
  refine ago_regE E9_11 (l := [0, 1, 2, 3, 4, 5]) rfl ?_
  obtain ⟨b97, i98, hp99, c100, hg116, c101, hg117, c102, hg118, c103, hg119, c104, hg120, c105, hg121, c106, hg122, c107, hg123, c108, hg124, c109, hg125, c110, hg126, c111, hg127, c112, hg128, c113, hg129, c114, hg130, c115, hg131, H⟩ := H
  refine lk (dt := some 13) R9_3_N rfl rfl rfl (ov_ldN rfl underlying30 rfl sz30 rfl rfl hp99 (getN_cons hg116 (getN_cons hg117 (getN_cons hg118 (getN_cons hg119 (getN_cons hg120 (getN_cons hg121 (getN_cons hg122 (getN_cons hg123 (getN_cons hg124 (getN_cons hg125 (getN_cons hg126 (getN_cons hg127 (getN_cons hg128 (getN_cons hg129 (getN_cons hg130 (getN_cons hg131 getN_nil))))))))))))))))) ?_
  refine lk_call (dt := some 14) R9_3_N rfl rfl rfl (opc_of rfl rfl is23 (ma_cons rfl rfl)) H (fun _ _ h => ⟨rfl, h⟩) fun r132 aw133 H => ?_
  refine lk (dt := some 15) R9_3_N rfl rfl rfl (ov_bld (r := [.int .i64 r132.1, .int .i64 r132.2.1, .int .i64 r132.2.2.1, .int .u64 r132.2.2.2.1, .int .i64 r132.2.2.2.2.1, .int .u64 r132.2.2.2.2.2.1, .int .u64 r132.2.2.2.2.2.2.1, r132.2.2.2.2.2.2.2.1, r132.2.2.2.2.2.2.2.2.1, .int .u64 r132.2.2.2.2.2.2.2.2.2.1, .int .u8 r132.2.2.2.2.2.2.2.2.2.2.1, .int .i64 r132.2.2.2.2.2.2.2.2.2.2.2.1, .int .i64 r132.2.2.2.2.2.2.2.2.2.2.2.2.1, r132.2.2.2.2.2.2.2.2.2.2.2.2.2.1, r132.2.2.2.2.2.2.2.2.2.2.2.2.2.2.1, r132.2.2.2.2.2.2.2.2.2.2.2.2.2.2.2, (.slice none 0 0)]) rfl rfl bo76 (mp_cons rfl rfl) (fillP rfl rfl rfl rfl (fillN rfl))) ?_
  obtain ⟨p134, aw135, hp136, ha137, H⟩ := H
  refine lk (dt := some 16) R9_3_N rfl rfl rfl (ov_box rfl rfl rfl rfl hp136 ha137) ?_
  obtain ⟨p138, aw139, hp140, ha141, H⟩ := H
  refine lk (dt := some 6) R9_3_N rfl rfl rfl (ov_alloc rfl z73 rfl rfl hp140 ha141) ?_
  obtain ⟨b143, i144, aw142, hp145, hw146, ho147, ha148, H⟩ := H
  refine lk (dt := none) R9_3_N rfl rfl rfl (ov_st rfl rfl rfl rfl rfl (cells_all ho147) sz73 hp145 hw146 ho147 ha148) ?_
  refine aops_nil ?_
  refine ago_seqE E9_12 ?_
  refine ago_seqE E9_13 ?_
  refine ago_cut (fun ρ => ρ 1 = .int .i64 draw_1 ∧ ρ 4 = p5 ∧ ρ 6 = p138 ∧ True) ⟨h1, rfl, rfl, trivial⟩ (fun ρ ⟨h1, h4, h6, _⟩ => ?_)
  refine ago_regE E9_14 (l := [0, 1, 2, 3, 4, 5]) rfl ?_
  obtain ⟨b149, i150, x152, hp151, hg153, H⟩ := H
  refine lk (dt := some 17) R9_4_N rfl rfl rfl (ov_ldV rfl underlying73 rfl rfl h6 hp151 hg153) ?_
  obtain ⟨hp154, H⟩ := H
  refine lk (dt := some 18) R9_4_N rfl rfl rfl (ov_nck rfl rfl rfl hp154) ?_
  obtain ⟨b156, i157, p155, hp158, hv159, H⟩ := H
  refine lk (dt := some 19) R9_4_N rfl rfl rfl (ov_fldA rfl rfl underlying76 rfl sz30 (by decide) rfl hp158 rfl hv159) ?_
  obtain ⟨b161, i162, p160, hp163, hv164, H⟩ := H
  refine lk (dt := some 20) R9_4_N rfl rfl rfl (ov_fldA rfl rfl underlying30 rfl sz5 (by decide) rfl hp163 rfl hv164) ?_
  obtain ⟨b165, i166, x168, hp167, hg169, H⟩ := H
  refine lk (dt := some 21) R9_4_N rfl rfl rfl (ov_ldI rfl underlying5 rfl rfl hp167 hg169) ?_
  refine lk (dt := some 22) R9_4_N rfl rfl rfl (opv_eqI rfl rfl rfl rfl rfl) ?_
  refine aops_nil ?_
  refine ago_condE  E9_15 rfl rfl (fun hb170 => ?_) (fun hb170 => ?_)
  · replace H := cnd_t H hb170
    refine ago_seqE E9_16 ?_
    refine ago_regE E9_17 (l := [0, 1, 2, 3]) rfl ?_
    obtain ⟨b171, i172, x174, hp173, hg175, H⟩ := H
    refine lk (dt := some 23) R9_5_N rfl rfl rfl (ov_ldV rfl underlying73 rfl rfl h6 hp173 hg175) ?_
    obtain ⟨b176, i177, x179, hp178, hg180, H⟩ := H
    refine lk (dt := some 24) R9_5_N rfl rfl rfl (ov_ldV rfl underlying73 rfl rfl h6 hp178 hg180) ?_
    refine lk (dt := some 25) R9_5_N rfl rfl rfl (ov_mkF rfl rfl rfl (ma_cons rfl rfl) rfl) ?_
    refine lk_call (dt := some 26) R9_5_N rfl rfl rfl (opc_of rfl rfl is24 (ma_cons rfl (ma_cons rfl rfl))) H (fun _ _ h => ⟨rfl, h⟩) fun r181 aw182 H => ?_
    refine aops_nil ?_
    refine ago_seqE E9_18 ?_
    obtain ⟨b183, i184, x186, hp185, hg187, H⟩ := H
    obtain ⟨hp188, H⟩ := H
    obtain ⟨b190, i191, p189, hp192, hv193, H⟩ := H
    obtain ⟨b194, i195, hp196, c197, hg213, c198, hg214, c199, hg215, c200, hg216, c201, hg217, c202, hg218, c203, hg219, c204, hg220, c205, hg221, c206, hg222, c207, hg223, c208, hg224, c209, hg225, c210, hg226, c211, hg227, c212, hg228, H⟩ := H
    obtain ⟨b229, i230, x232, hp231, hg233, H⟩ := H
    obtain ⟨hp234, H⟩ := H
    obtain ⟨b236, i237, p235, hp238, hv239, H⟩ := H
    obtain ⟨b240, i241, x243, hp242, hg244, H⟩ := H
    refine ago_drawH (p := [0, 1, 2, 3, 4, 5, 6, 7]) (tl := [(8, [4, 5, 6, 7], [9])]) (hv := [(0, x186), (1, x186), (2, p189), (3, Value.agg #[.int .i64 c197, .int .i64 c198, .int .i64 c199, .int .u64 c200, .int .i64 c201, .int .u64 c202, .int .u64 c203, c204, c205, .int .u64 c206, .int .u8 c207, .int .i64 c208, .int .i64 c209, c210, c211, c212]), (4, x232), (5, x232), (6, p235), (7, x243)]) E9_19 mixed R9_6_N R9_6_O rfl (pv_cons rfl (pv_cons rfl (pv_cons rfl (pv_cons rfl (pv_cons rfl (pv_cons rfl (pv_cons rfl (pv_cons rfl (pv_nil _)))))))))
      (ffc (d := 27) (v := x186) (hd_v rfl fun ρ hρ => ⟨rfl, ov_ldV rfl underlying73 rfl rfl ((hρ 6 (lmem rfl)).trans h6) hp185 hg187⟩) rfl rfl
      (ffc (d := 28) (v := x186) (hd_v rfl fun ρ hρ => ⟨rfl, ov_nck rfl rfl ((hρ 27 (lmem rfl)).trans rfl) hp188⟩) rfl rfl
      (ffc (d := 29) (v := p189) (hd_v rfl fun ρ hρ => ⟨rfl, ov_fldA rfl rfl underlying76 rfl sz30 (by decide) ((hρ 28 (lmem rfl)).trans rfl) hp192 rfl hv193⟩) rfl rfl
      (ffc (d := 30) (v := .agg #[.int .i64 c197, .int .i64 c198, .int .i64 c199, .int .u64 c200, .int .i64 c201, .int .u64 c202, .int .u64 c203, c204, c205, .int .u64 c206, .int .u8 c207, .int .i64 c208, .int .i64 c209, c210, c211, c212]) (hd_v rfl fun ρ hρ => ⟨rfl, ov_ldN rfl underlying30 rfl sz30 rfl ((hρ 29 (lmem rfl)).trans rfl) hp196 (getN_cons hg213 (getN_cons hg214 (getN_cons hg215 (getN_cons hg216 (getN_cons hg217 (getN_cons hg218 (getN_cons hg219 (getN_cons hg220 (getN_cons hg221 (getN_cons hg222 (getN_cons hg223 (getN_cons hg224 (getN_cons hg225 (getN_cons hg226 (getN_cons hg227 (getN_cons hg228 getN_nil))))))))))))))))⟩) rfl rfl
      (ffc (d := 31) (v := x232) (hd_v rfl fun ρ hρ => ⟨rfl, ov_ldV rfl underlying73 rfl rfl ((hρ 6 (lmem rfl)).trans h6) hp231 hg233⟩) rfl rfl
      (ffc (d := 32) (v := x232) (hd_v rfl fun ρ hρ => ⟨rfl, ov_nck rfl rfl ((hρ 31 (lmem rfl)).trans rfl) hp234⟩) rfl rfl
      (ffc (d := 33) (v := p235) (hd_v rfl fun ρ hρ => ⟨rfl, ov_fldA rfl rfl underlying76 rfl sz34 (by decide) ((hρ 32 (lmem rfl)).trans rfl) hp238 rfl hv239⟩) rfl rfl
      (ffc (d := 34) (v := x243) (hd_v rfl fun ρ hρ => ⟨rfl, ov_ldV rfl underlying34 rfl rfl ((hρ 33 (lmem rfl)).trans rfl) hp242 hg244⟩) rfl rfl
      ffn)))))))) ?_
    obtain ⟨b246, i247, aw245, hp248, hw249, ho250, ha251, H⟩ := H
    refine lt_val (dt := none) (v := undef) rfl rfl (fun ρ hρ => ⟨rfl, ov_st rfl rfl rfl ((hρ 4 (lmem rfl)).trans h4) ((hρ 30 (lmem rfl)).trans rfl) rfl sz30 hp248 hw249 ho250 ha251⟩) ?_
    obtain ⟨hg233, H⟩ := H
    replace hg233 := hg233 _ _ hp231
    obtain ⟨hg244, H⟩ := H
    replace hg244 := hg244 _ _ hp242
    refine lt_next (l := [4, 5, 6, 7, 9]) (hv := [(9, x243)]) rfl rfl (pv_cons rfl (pv_nil _))
      (ffc (d := 31) (v := x232) (hd_v rfl fun ρ hρ => ⟨rfl, ov_ldV rfl underlying73 rfl rfl ((hρ 6 (lmem rfl)).trans h6) hp231 hg233⟩) rfl rfl
      (ffc (d := 32) (v := x232) (hd_v rfl fun ρ hρ => ⟨rfl, ov_nck rfl rfl ((hρ 31 (lmem rfl)).trans rfl) hp234⟩) rfl rfl
      (ffc (d := 33) (v := p235) (hd_v rfl fun ρ hρ => ⟨rfl, ov_fldA rfl rfl underlying76 rfl sz34 (by decide) ((hρ 32 (lmem rfl)).trans rfl) hp238 rfl hv239⟩) rfl rfl
      (ffc (d := 34) (v := x243) (hd_v rfl fun ρ hρ => ⟨rfl, ov_ldV rfl underlying34 rfl rfl ((hρ 33 (lmem rfl)).trans rfl) hp242 hg244⟩) rfl rfl
      (ffc (d := 5) (v := x243) (hd_v rfl fun ρ hρ => ⟨rfl, opv_assign rfl rfl ((hρ 34 (lmem rfl)).trans rfl)⟩) rfl rfl
      ffn))))) ?_
    refine lt_end ?_
    obtain ⟨b252, i253, hp254, c255, hg271, c256, hg272, c257, hg273, c258, hg274, c259, hg275, c260, hg276, c261, hg277, c262, hg278, c263, hg279, c264, hg280, c265, hg281, c266, hg282, c267, hg283, c268, hg284, c269, hg285, c270, hg286, H⟩ := H
    exact ago_retE E9_20 (r := (c255, c256, c257, c258, c259, c260, c261, c262, c263, c264, c265, c266, c267, c268, c269, c270, x243)) (ares_2 rfl (oneN h4 hp254 underlying30 rfl sz30 (getN_cons hg271 (getN_cons hg272 (getN_cons hg273 (getN_cons hg274 (getN_cons hg275 (getN_cons hg276 (getN_cons hg277 (getN_cons hg278 (getN_cons hg279 (getN_cons hg280 (getN_cons hg281 (getN_cons hg282 (getN_cons hg283 (getN_cons hg284 (getN_cons hg285 (getN_cons hg286 getN_nil))))))))))))))))) (oneT rfl)) rfl H
  replace H := cnd_f H hb170
  refine ago_skipE E9_21 ?_
  refine ago_seqE E9_22 ?_
  refine ago_seqE E9_23 ?_
  refine ago_regE E9_24 (l := [0, 1, 2, 3, 4, 5, 6, 7, 8, 9]) rfl ?_
  obtain ⟨b287, i288, x290, hp289, hg291, H⟩ := H
  refine lk (dt := some 35) R9_7_N rfl rfl rfl (ov_ldV rfl underlying73 rfl rfl h6 hp289 hg291) ?_
  obtain ⟨hp292, H⟩ := H
  refine lk (dt := some 36) R9_7_N rfl rfl rfl (ov_nck rfl rfl rfl hp292) ?_
  obtain ⟨b294, i295, p293, hp296, hv297, H⟩ := H
  refine lk (dt := some 37) R9_7_N rfl rfl rfl (ov_fldA rfl rfl underlying76 rfl sz30 (by decide) rfl hp296 rfl hv297) ?_
  obtain ⟨b299, i300, p298, hp301, hv302, H⟩ := H
  refine lk (dt := some 38) R9_7_N rfl rfl rfl (ov_fldA rfl rfl underlying30 rfl sz3 (by decide) rfl hp301 rfl hv302) ?_
  obtain ⟨b303, i304, x306, hp305, hg307, H⟩ := H
  refine lk (dt := some 39) R9_7_N rfl rfl rfl (ov_ldI rfl underlying3 rfl rfl hp305 hg307) ?_
  refine lk (dt := some 40) R9_7_N rfl rfl rfl (opv_sub rfl rfl rfl rfl rfl) ?_
  obtain ⟨hp308, H⟩ := H
  refine lk (dt := some 41) R9_7_N rfl rfl rfl (ov_nck rfl rfl rfl hp308) ?_
  obtain ⟨b310, i311, p309, hp312, hv313, H⟩ := H
  refine lk (dt := some 42) R9_7_N rfl rfl rfl (ov_fldA rfl rfl underlying76 rfl sz30 (by decide) rfl hp312 rfl hv313) ?_
  obtain ⟨b315, i316, p314, hp317, hv318, H⟩ := H
  refine lk (dt := some 43) R9_7_N rfl rfl rfl (ov_fldA rfl rfl underlying30 rfl sz3 (by decide) rfl hp317 rfl hv318) ?_
  obtain ⟨b320, i321, aw319, hp322, hw323, ho324, ha325, H⟩ := H
  refine lk (dt := none) R9_7_N rfl rfl rfl (ov_st rfl rfl rfl rfl rfl rfl sz3 hp322 hw323 ho324 ha325) ?_
  refine aops_nil ?_
  refine ago_seqE E9_25 ?_
  refine ago_cut (fun ρ => ρ 1 = .int .i64 draw_1 ∧ ρ 4 = p5 ∧ ρ 6 = p138 ∧ True) ⟨h1, h4, h6, trivial⟩ (fun ρ ⟨h1, h4, h6, _⟩ => ?_)
  refine ago_regE E9_26 (l := [0, 1, 2, 3, 4, 5]) rfl ?_
  obtain ⟨b326, i327, x329, hp328, hg330, H⟩ := H
  refine lk (dt := some 44) R9_8_N rfl rfl rfl (ov_ldV rfl underlying73 rfl rfl h6 hp328 hg330) ?_
  obtain ⟨hp331, H⟩ := H
  refine lk (dt := some 45) R9_8_N rfl rfl rfl (ov_nck rfl rfl rfl hp331) ?_
  obtain ⟨b333, i334, p332, hp335, hv336, H⟩ := H
  refine lk (dt := some 46) R9_8_N rfl rfl rfl (ov_fldA rfl rfl underlying76 rfl sz30 (by decide) rfl hp335 rfl hv336) ?_
  obtain ⟨b338, i339, p337, hp340, hv341, H⟩ := H
  refine lk (dt := some 47) R9_8_N rfl rfl rfl (ov_fldA rfl rfl underlying30 rfl sz3 (by decide) rfl hp340 rfl hv341) ?_
  obtain ⟨b342, i343, x345, hp344, hg346, H⟩ := H
  refine lk (dt := some 48) R9_8_N rfl rfl rfl (ov_ldI rfl underlying3 rfl rfl hp344 hg346) ?_
  refine lk (dt := some 49) R9_8_N rfl rfl rfl (opv_gt rfl rfl rfl rfl rfl) ?_
  refine aops_nil ?_
  refine ago_condE  E9_27 rfl rfl (fun hb347 => ?_) (fun hb347 => ?_)
  · replace H := cnd_t H hb347
    refine ago_seqE E9_28 ?_
    refine ago_regE E9_29 (l := [0, 1, 2, 3, 4, 5]) rfl ?_
    obtain ⟨b348, i349, x351, hp350, hg352, H⟩ := H
    refine lk (dt := some 50) R9_9_N rfl rfl rfl (ov_ldV rfl underlying73 rfl rfl h6 hp350 hg352) ?_
    obtain ⟨hp353, H⟩ := H
    refine lk (dt := some 51) R9_9_N rfl rfl rfl (ov_nck rfl rfl rfl hp353) ?_
    obtain ⟨b355, i356, p354, hp357, hv358, H⟩ := H
    refine lk (dt := some 52) R9_9_N rfl rfl rfl (ov_fldA rfl rfl underlying76 rfl sz30 (by decide) rfl hp357 rfl hv358) ?_
    obtain ⟨b359, i360, hp361, c362, hg378, c363, hg379, c364, hg380, c365, hg381, c366, hg382, c367, hg383, c368, hg384, c369, hg385, c370, hg386, c371, hg387, c372, hg388, c373, hg389, c374, hg390, c375, hg391, c376, hg392, c377, hg393, H⟩ := H
    refine lk (dt := some 53) R9_9_N rfl rfl rfl (ov_ldN rfl underlying30 rfl sz30 rfl rfl hp361 (getN_cons hg378 (getN_cons hg379 (getN_cons hg380 (getN_cons hg381 (getN_cons hg382 (getN_cons hg383 (getN_cons hg384 (getN_cons hg385 (getN_cons hg386 (getN_cons hg387 (getN_cons hg388 (getN_cons hg389 (getN_cons hg390 (getN_cons hg391 (getN_cons hg392 (getN_cons hg393 getN_nil))))))))))))))))) ?_
    obtain ⟨b395, i396, aw394, hp397, hw398, ho399, ha400, H⟩ := H
    refine lk (dt := none) R9_9_N rfl rfl rfl (ov_st rfl rfl rfl h4 rfl rfl sz30 hp397 hw398 ho399 ha400) ?_
    refine lk (dt := some 5) R9_9_N rfl rfl rfl (opv_assign rfl rfl rfl) ?_
    refine aops_nil ?_
    obtain ⟨b401, i402, hp403, c404, hg420, c405, hg421, c406, hg422, c407, hg423, c408, hg424, c409, hg425, c410, hg426, c411, hg427, c412, hg428, c413, hg429, c414, hg430, c415, hg431, c416, hg432, c417, hg433, c418, hg434, c419, hg435, H⟩ := H
    exact ago_retE E9_30 (r := (c404, c405, c406, c407, c408, c409, c410, c411, c412, c413, c414, c415, c416, c417, c418, c419, (.slice none 0 0))) (ares_2 rfl (oneN h4 hp403 underlying30 rfl sz30 (getN_cons hg420 (getN_cons hg421 (getN_cons hg422 (getN_cons hg423 (getN_cons hg424 (getN_cons hg425 (getN_cons hg426 (getN_cons hg427 (getN_cons hg428 (getN_cons hg429 (getN_cons hg430 (getN_cons hg431 (getN_cons hg432 (getN_cons hg433 (getN_cons hg434 (getN_cons hg435 getN_nil))))))))))))))))) (oneT rfl)) rfl H
  replace H := cnd_f H hb347
  refine ago_skipE E9_31 ?_
  refine ago_seqE E9_32 ?_
  refine ago_regE E9_33 (l := [0, 1, 2, 3, 4, 5, 6, 7, 8, 9]) rfl ?_
  obtain ⟨b436, i437, x439, hp438, hg440, H⟩ := H
  refine lk (dt := some 54) R9_10_N rfl rfl rfl (ov_ldV rfl underlying73 rfl rfl h6 hp438 hg440) ?_
  obtain ⟨hp441, H⟩ := H
  refine lk (dt := some 55) R9_10_N rfl rfl rfl (ov_nck rfl rfl rfl hp441) ?_
  obtain ⟨b443, i444, p442, hp445, hv446, H⟩ := H
  refine lk (dt := some 56) R9_10_N rfl rfl rfl (ov_fldA rfl rfl underlying76 rfl sz30 (by decide) rfl hp445 rfl hv446) ?_
  obtain ⟨b448, i449, p447, hp450, hv451, H⟩ := H
  refine lk (dt := some 57) R9_10_N rfl rfl rfl (ov_fldA rfl rfl underlying30 rfl sz24 (by decide) rfl hp450 rfl hv451) ?_
  obtain ⟨b452, i453, x455, hp454, hg456, H⟩ := H
  refine lk (dt := some 58) R9_10_N rfl rfl rfl (ov_ldI rfl underlying24 rfl rfl hp454 hg456) ?_
  refine lk (dt := some 59) R9_10_N rfl rfl rfl (opv_add rfl rfl rfl rfl rfl) ?_
  obtain ⟨hp457, H⟩ := H
  refine lk (dt := some 60) R9_10_N rfl rfl rfl (ov_nck rfl rfl rfl hp457) ?_
  obtain ⟨b459, i460, p458, hp461, hv462, H⟩ := H
  refine lk (dt := some 61) R9_10_N rfl rfl rfl (ov_fldA rfl rfl underlying76 rfl sz30 (by decide) rfl hp461 rfl hv462) ?_
  obtain ⟨b464, i465, p463, hp466, hv467, H⟩ := H
  refine lk (dt := some 62) R9_10_N rfl rfl rfl (ov_fldA rfl rfl underlying30 rfl sz24 (by decide) rfl hp466 rfl hv467) ?_
  obtain ⟨b469, i470, aw468, hp471, hw472, ho473, ha474, H⟩ := H
  refine lk (dt := none) R9_10_N rfl rfl rfl (ov_st rfl rfl rfl rfl rfl rfl sz24 hp471 hw472 ho473 ha474) ?_
  refine aops_nil ?_
  refine ago_seqE E9_34 ?_
  refine ago_cut (fun ρ => ρ 1 = .int .i64 draw_1 ∧ ρ 4 = p5 ∧ ρ 6 = p138 ∧ True) ⟨h1, h4, h6, trivial⟩ (fun ρ ⟨h1, h4, h6, _⟩ => ?_)
  obtain ⟨b475, i476, x478, hp477, hg479, H⟩ := H
  obtain ⟨b480, i481, x483, hp482, hg484, H⟩ := H
  obtain ⟨b485, i486, x488, hp487, hg489, H⟩ := H
  obtain ⟨b490, i491, x493, hp492, hg494, H⟩ := H
  obtain ⟨hp495, H⟩ := H
  obtain ⟨b497, i498, p496, hp499, hv500, H⟩ := H
  obtain ⟨b502, i503, p501, hp504, hv505, H⟩ := H
  obtain ⟨b506, i507, x509, hp508, hg510, H⟩ := H
  obtain ⟨hp511, H⟩ := H
  obtain ⟨b513, i514, p512, hp515, hv516, H⟩ := H
  obtain ⟨b518, i519, p517, hp520, hv521, H⟩ := H
  refine ago_drawH (p := [0, 1, 2, 3, 4, 5, 6, 7, 8, 9, 10]) (tl := [(11, [1, 2], [12, 13, 14]), (15, [2], [16, 17, 18]), (19, [], [])]) (hv := [(0, x478), (1, x483), (2, x488), (3, x493), (4, x493), (5, p496), (6, p501), (7, Value.int .i64 x509), (8, x478), (9, p512), (10, p517)]) E9_35 mixed R9_11_N R9_11_O rfl (pv_cons rfl (pv_cons rfl (pv_cons rfl (pv_cons rfl (pv_cons rfl (pv_cons rfl (pv_cons rfl (pv_cons rfl (pv_cons rfl (pv_cons rfl (pv_cons rfl (pv_nil _))))))))))))
    (ffc (d := 63) (v := x478) (hd_v rfl fun ρ hρ => ⟨rfl, ov_ldV rfl underlying73 rfl rfl ((hρ 6 (lmem rfl)).trans h6) hp477 hg479⟩) rfl rfl
    (ffc (d := 64) (v := x483) (hd_v rfl fun ρ hρ => ⟨rfl, ov_ldV rfl underlying73 rfl rfl ((hρ 6 (lmem rfl)).trans h6) hp482 hg484⟩) rfl rfl
    (ffc (d := 65) (v := x488) (hd_v rfl fun ρ hρ => ⟨rfl, ov_ldV rfl underlying73 rfl rfl ((hρ 6 (lmem rfl)).trans h6) hp487 hg489⟩) rfl rfl
    (ffc (d := 66) (v := x493) (hd_v rfl fun ρ hρ => ⟨rfl, ov_ldV rfl underlying73 rfl rfl ((hρ 6 (lmem rfl)).trans h6) hp492 hg494⟩) rfl rfl
    (ffc (d := 67) (v := x493) (hd_v rfl fun ρ hρ => ⟨rfl, ov_nck rfl rfl ((hρ 66 (lmem rfl)).trans rfl) hp495⟩) rfl rfl
    (ffc (d := 68) (v := p496) (hd_v rfl fun ρ hρ => ⟨rfl, ov_fldA rfl rfl underlying76 rfl sz30 (by decide) ((hρ 67 (lmem rfl)).trans rfl) hp499 rfl hv500⟩) rfl rfl
    (ffc (d := 69) (v := p501) (hd_v rfl fun ρ hρ => ⟨rfl, ov_fldA rfl rfl underlying30 rfl sz3 (by decide) ((hρ 68 (lmem rfl)).trans rfl) hp504 rfl hv505⟩) rfl rfl
    (ffc (d := 70) (v := .int .i64 x509) (hd_v rfl fun ρ hρ => ⟨rfl, ov_ldI rfl underlying3 rfl ((hρ 69 (lmem rfl)).trans rfl) hp508 hg510⟩) rfl rfl
    (ffc (d := 71) (v := x478) (hd_v rfl fun ρ hρ => ⟨rfl, ov_nck rfl rfl ((hρ 63 (lmem rfl)).trans rfl) hp511⟩) rfl rfl
    (ffc (d := 72) (v := p512) (hd_v rfl fun ρ hρ => ⟨rfl, ov_fldA rfl rfl underlying76 rfl sz30 (by decide) ((hρ 71 (lmem rfl)).trans rfl) hp515 rfl hv516⟩) rfl rfl
    (ffc (d := 73) (v := p517) (hd_v rfl fun ρ hρ => ⟨rfl, ov_fldA rfl rfl underlying30 rfl sz3 (by decide) ((hρ 72 (lmem rfl)).trans rfl) hp520 rfl hv521⟩) rfl rfl
    ffn))))))))))) ?_
  obtain ⟨b523, i524, aw522, hp525, hw526, ho527, ha528, H⟩ := H
  refine lt_val (dt := none) (v := undef) rfl rfl (fun ρ hρ => ⟨rfl, ov_st rfl rfl rfl ((hρ 73 (lmem rfl)).trans rfl) ((hρ 70 (lmem rfl)).trans rfl) rfl sz3 hp525 hw526 ho527 ha528⟩) ?_
  obtain ⟨hg484, H⟩ := H
  replace hg484 := hg484 _ _ hp482
  obtain ⟨hg489, H⟩ := H
  replace hg489 := hg489 _ _ hp487
  obtain ⟨hp529, H⟩ := H
  obtain ⟨b531, i532, p530, hp533, hv534, H⟩ := H
  obtain ⟨b536, i537, p535, hp538, hv539, H⟩ := H
  refine lt_next (l := [1, 2, 12, 13, 14]) (hv := [(12, x483), (13, p530), (14, p535)]) rfl rfl (pv_cons rfl (pv_cons rfl (pv_cons rfl (pv_nil _))))
    (ffc (d := 64) (v := x483) (hd_v rfl fun ρ hρ => ⟨rfl, ov_ldV rfl underlying73 rfl rfl ((hρ 6 (lmem rfl)).trans h6) hp482 hg484⟩) rfl rfl
    (ffc (d := 65) (v := x488) (hd_v rfl fun ρ hρ => ⟨rfl, ov_ldV rfl underlying73 rfl rfl ((hρ 6 (lmem rfl)).trans h6) hp487 hg489⟩) rfl rfl
    (ffc (d := 74) (v := x483) (hd_v rfl fun ρ hρ => ⟨rfl, ov_nck rfl rfl ((hρ 64 (lmem rfl)).trans rfl) hp529⟩) rfl rfl
    (ffc (d := 75) (v := p530) (hd_v rfl fun ρ hρ => ⟨rfl, ov_fldA rfl rfl underlying76 rfl sz30 (by decide) ((hρ 74 (lmem rfl)).trans rfl) hp533 rfl hv534⟩) rfl rfl
    (ffc (d := 76) (v := p535) (hd_v rfl fun ρ hρ => ⟨rfl, ov_fldA rfl rfl underlying30 rfl sz5 (by decide) ((hρ 75 (lmem rfl)).trans rfl) hp538 rfl hv539⟩) rfl rfl
    ffn))))) ?_
  obtain ⟨b541, i542, aw540, hp543, hw544, ho545, ha546, H⟩ := H
  refine lt_val (dt := none) (v := undef) rfl rfl (fun ρ hρ => ⟨rfl, ov_st rfl rfl rfl ((hρ 76 (lmem rfl)).trans rfl) rfl rfl sz5 hp543 hw544 ho545 ha546⟩) ?_
  obtain ⟨hg489, H⟩ := H
  replace hg489 := hg489 _ _ hp487
  obtain ⟨hp547, H⟩ := H
  obtain ⟨b549, i550, p548, hp551, hv552, H⟩ := H
  obtain ⟨b554, i555, p553, hp556, hv557, H⟩ := H
  refine lt_next (l := [2, 16, 17, 18]) (hv := [(16, x488), (17, p548), (18, p553)]) rfl rfl (pv_cons rfl (pv_cons rfl (pv_cons rfl (pv_nil _))))
    (ffc (d := 65) (v := x488) (hd_v rfl fun ρ hρ => ⟨rfl, ov_ldV rfl underlying73 rfl rfl ((hρ 6 (lmem rfl)).trans h6) hp487 hg489⟩) rfl rfl
    (ffc (d := 77) (v := x488) (hd_v rfl fun ρ hρ => ⟨rfl, ov_nck rfl rfl ((hρ 65 (lmem rfl)).trans rfl) hp547⟩) rfl rfl
    (ffc (d := 78) (v := p548) (hd_v rfl fun ρ hρ => ⟨rfl, ov_fldA rfl rfl underlying76 rfl sz30 (by decide) ((hρ 77 (lmem rfl)).trans rfl) hp551 rfl hv552⟩) rfl rfl
    (ffc (d := 79) (v := p553) (hd_v rfl fun ρ hρ => ⟨rfl, ov_fldA rfl rfl underlying30 rfl sz3 (by decide) ((hρ 78 (lmem rfl)).trans rfl) hp556 rfl hv557⟩) rfl rfl
    ffn)))) ?_
  obtain ⟨b559, i560, aw558, hp561, hw562, ho563, ha564, H⟩ := H
  refine lt_val (dt := none) (v := undef) rfl rfl (fun ρ hρ => ⟨rfl, ov_st rfl rfl rfl ((hρ 79 (lmem rfl)).trans rfl) rfl rfl sz3 hp561 hw562 ho563 ha564⟩) ?_
  refine lt_next (l := []) (hv := []) rfl rfl (pv_nil _)
    ffn ?_
  refine lt_end ?_
  refine ago_seqE E9_36 ?_
  refine ago_cut (fun ρ => ρ 1 = .int .i64 draw_1 ∧ ρ 4 = p5 ∧ ρ 6 = p138 ∧ True) ⟨h1, h4, h6, trivial⟩ (fun ρ ⟨h1, h4, h6, _⟩ => ?_)
  refine ago_regE E9_37 (l := [0, 1, 2]) rfl ?_
  obtain ⟨b565, i566, x568, hp567, hg569, H⟩ := H
  refine lk (dt := some 80) R9_12_N rfl rfl rfl (ov_ldV rfl underlying73 rfl rfl h6 hp567 hg569) ?_
  refine lk (dt := some 81) R9_12_N rfl rfl rfl (opv_move rfl rfl h1) ?_
  refine lk_call (dt := some 82) R9_12_N rfl rfl rfl (opc_of rfl rfl is26 (ma_cons rfl (ma_cons rfl rfl))) H (fun _ _ h => ⟨rfl, h⟩) fun r570 aw571 H => ?_
  refine aops_nil ?_
  refine ago_seqE E9_38 ?_
  obtain ⟨b572, i573, x575, hp574, hg576, H⟩ := H
  obtain ⟨b577, i578, x580, hp579, hg581, H⟩ := H
  obtain ⟨hp582, H⟩ := H
  obtain ⟨b584, i585, p583, hp586, hv587, H⟩ := H
  obtain ⟨b589, i590, p588, hp591, hv592, H⟩ := H
  obtain ⟨b593, i594, x596, hp595, hg597, H⟩ := H
  refine ago_drawH (p := [0, 1, 2, 3, 4, 5]) (tl := [(6, [0], [7, 8, 9]), (10, [], [])]) (hv := [(0, x575), (1, x580), (2, x580), (3, p583), (4, p588), (5, Value.int .i64 x596)]) E9_39 mixed R9_13_N R9_13_O rfl (pv_cons rfl (pv_cons rfl (pv_cons rfl (pv_cons rfl (pv_cons rfl (pv_cons rfl (pv_nil _)))))))
    (ffc (d := 83) (v := x575) (hd_v rfl fun ρ hρ => ⟨rfl, ov_ldV rfl underlying73 rfl rfl ((hρ 6 (lmem rfl)).trans h6) hp574 hg576⟩) rfl rfl
    (ffc (d := 84) (v := x580) (hd_v rfl fun ρ hρ => ⟨rfl, ov_ldV rfl underlying73 rfl rfl ((hρ 6 (lmem rfl)).trans h6) hp579 hg581⟩) rfl rfl
    (ffc (d := 85) (v := x580) (hd_v rfl fun ρ hρ => ⟨rfl, ov_nck rfl rfl ((hρ 84 (lmem rfl)).trans rfl) hp582⟩) rfl rfl
    (ffc (d := 86) (v := p583) (hd_v rfl fun ρ hρ => ⟨rfl, ov_fldA rfl rfl underlying76 rfl sz30 (by decide) ((hρ 85 (lmem rfl)).trans rfl) hp586 rfl hv587⟩) rfl rfl
    (ffc (d := 87) (v := p588) (hd_v rfl fun ρ hρ => ⟨rfl, ov_fldA rfl rfl underlying30 rfl sz3 (by decide) ((hρ 86 (lmem rfl)).trans rfl) hp591 rfl hv592⟩) rfl rfl
    (ffc (d := 88) (v := .int .i64 x596) (hd_v rfl fun ρ hρ => ⟨rfl, ov_ldI rfl underlying3 rfl ((hρ 87 (lmem rfl)).trans rfl) hp595 hg597⟩) rfl rfl
    ffn)))))) ?_
  obtain ⟨p598, aw599, hq600, hq601, hq602, hq603, hq604, hq605, H⟩ := H
  refine lt_val (dt := some 89) (v := p598) rfl rfl (fun ρ hρ => ⟨rfl, ov_mk rfl rfl rfl underlying27 sz4 by4 z4 rfl (by decide) rfl rfl ((hρ 88 (lmem rfl)).trans rfl) ((hρ 88 (lmem rfl)).trans rfl) hq600 hq601 hq602 hq603 hq604 hq605⟩) ?_
  obtain ⟨hg576, H⟩ := H
  replace hg576 := hg576 _ _ hp574
  obtain ⟨hp606, H⟩ := H
  obtain ⟨b608, i609, p607, hp610, hv611, H⟩ := H
  obtain ⟨b613, i614, p612, hp615, hv616, H⟩ := H
  refine lt_next (l := [0, 7, 8, 9]) (hv := [(7, x575), (8, p607), (9, p612)]) rfl rfl (pv_cons rfl (pv_cons rfl (pv_cons rfl (pv_nil _))))
    (ffc (d := 83) (v := x575) (hd_v rfl fun ρ hρ => ⟨rfl, ov_ldV rfl underlying73 rfl rfl ((hρ 6 (lmem rfl)).trans h6) hp574 hg576⟩) rfl rfl
    (ffc (d := 90) (v := x575) (hd_v rfl fun ρ hρ => ⟨rfl, ov_nck rfl rfl ((hρ 83 (lmem rfl)).trans rfl) hp606⟩) rfl rfl
    (ffc (d := 91) (v := p607) (hd_v rfl fun ρ hρ => ⟨rfl, ov_fldA rfl rfl underlying76 rfl sz30 (by decide) ((hρ 90 (lmem rfl)).trans rfl) hp610 rfl hv611⟩) rfl rfl
    (ffc (d := 92) (v := p612) (hd_v rfl fun ρ hρ => ⟨rfl, ov_fldA rfl rfl underlying30 rfl sz27 (by decide) ((hρ 91 (lmem rfl)).trans rfl) hp615 rfl hv616⟩) rfl rfl
    ffn)))) ?_
  obtain ⟨b618, i619, aw617, hp620, hw621, ho622, ha623, H⟩ := H
  refine lt_val (dt := none) (v := undef) rfl rfl (fun ρ hρ => ⟨rfl, ov_st rfl rfl rfl ((hρ 92 (lmem rfl)).trans rfl) ((hρ 89 (lmem rfl)).trans rfl) (cells_all ho622) sz27 hp620 hw621 ho622 ha623⟩) ?_
  refine lt_next (l := []) (hv := []) rfl rfl (pv_nil _)
    ffn ?_
  refine lt_end ?_
  refine ago_seqE E9_40 ?_
  refine ago_cut (fun ρ => ρ 4 = p5 ∧ ρ 6 = p138 ∧ True) ⟨h4, h6, trivial⟩ (fun ρ ⟨h4, h6, _⟩ => ?_)
  obtain ⟨b624, i625, x627, hp626, hg628, H⟩ := H
  obtain ⟨hp629, H⟩ := H
  obtain ⟨b631, i632, p630, hp633, hv634, H⟩ := H
  obtain ⟨b636, i637, p635, hp638, hv639, H⟩ := H
  obtain ⟨b640, i641, x643, hp642, hg644, H⟩ := H
  obtain ⟨b645, i646, x648, hp647, hg649, H⟩ := H
  obtain ⟨hp650, H⟩ := H
  obtain ⟨b652, i653, p651, hp654, hv655, H⟩ := H
  obtain ⟨b657, i658, p656, hp659, hv660, H⟩ := H
  obtain ⟨b661, i662, x664, hp663, hg665, H⟩ := H
  obtain ⟨b667, i668, l669, c670, p666, hp671, h0672, hj673, hv674, H⟩ := H
  refine ago_drawH (p := [0, 1, 2, 3, 4, 5, 6, 7, 8, 9, 10]) (tl := [(11, [], [])]) (hv := [(0, x627), (1, x627), (2, p630), (3, p635), (4, x643), (5, x648), (6, x648), (7, p651), (8, p656), (9, Value.int .i64 x664), (10, p666)]) E9_41 mixed R9_14_N R9_14_O rfl (pv_cons rfl (pv_cons rfl (pv_cons rfl (pv_cons rfl (pv_cons rfl (pv_cons rfl (pv_cons rfl (pv_cons rfl (pv_cons rfl (pv_cons rfl (pv_cons rfl (pv_nil _))))))))))))
    (ffc (d := 93) (v := x627) (hd_v rfl fun ρ hρ => ⟨rfl, ov_ldV rfl underlying73 rfl rfl ((hρ 6 (lmem rfl)).trans h6) hp626 hg628⟩) rfl rfl
    (ffc (d := 94) (v := x627) (hd_v rfl fun ρ hρ => ⟨rfl, ov_nck rfl rfl ((hρ 93 (lmem rfl)).trans rfl) hp629⟩) rfl rfl
    (ffc (d := 95) (v := p630) (hd_v rfl fun ρ hρ => ⟨rfl, ov_fldA rfl rfl underlying76 rfl sz30 (by decide) ((hρ 94 (lmem rfl)).trans rfl) hp633 rfl hv634⟩) rfl rfl
    (ffc (d := 96) (v := p635) (hd_v rfl fun ρ hρ => ⟨rfl, ov_fldA rfl rfl underlying30 rfl sz27 (by decide) ((hρ 95 (lmem rfl)).trans rfl) hp638 rfl hv639⟩) rfl rfl
    (ffc (d := 97) (v := x643) (hd_v rfl fun ρ hρ => ⟨rfl, ov_ldV rfl underlying27 rfl rfl ((hρ 96 (lmem rfl)).trans rfl) hp642 hg644⟩) rfl rfl
    (ffc (d := 98) (v := x648) (hd_v rfl fun ρ hρ => ⟨rfl, ov_ldV rfl underlying73 rfl rfl ((hρ 6 (lmem rfl)).trans h6) hp647 hg649⟩) rfl rfl
    (ffc (d := 99) (v := x648) (hd_v rfl fun ρ hρ => ⟨rfl, ov_nck rfl rfl ((hρ 98 (lmem rfl)).trans rfl) hp650⟩) rfl rfl
    (ffc (d := 100) (v := p651) (hd_v rfl fun ρ hρ => ⟨rfl, ov_fldA rfl rfl underlying76 rfl sz30 (by decide) ((hρ 99 (lmem rfl)).trans rfl) hp654 rfl hv655⟩) rfl rfl
    (ffc (d := 101) (v := p656) (hd_v rfl fun ρ hρ => ⟨rfl, ov_fldA rfl rfl underlying30 rfl sz3 (by decide) ((hρ 100 (lmem rfl)).trans rfl) hp659 rfl hv660⟩) rfl rfl
    (ffc (d := 102) (v := .int .i64 x664) (hd_v rfl fun ρ hρ => ⟨rfl, ov_ldI rfl underlying3 rfl ((hρ 101 (lmem rfl)).trans rfl) hp663 hg665⟩) rfl rfl
    (ffc (d := 103) (v := p666) (hd_v rfl fun ρ hρ => ⟨rfl, ov_ixS rfl rfl rfl underlying27 sz4 ((hρ 97 (lmem rfl)).trans rfl) ((hρ 102 (lmem rfl)).trans rfl) hp671 h0672 hj673 hv674⟩) rfl rfl
    ffn))))))))))) ?_
  obtain ⟨b676, i677, aw675, hp678, hw679, ho680, ha681, H⟩ := H
  refine lt_val (dt := none) (v := undef) rfl rfl (fun ρ hρ => ⟨rfl, ov_st rfl rfl rfl ((hρ 103 (lmem rfl)).trans rfl) rfl rfl sz4 hp678 hw679 ho680 ha681⟩) ?_
  refine lt_next (l := []) (hv := []) rfl rfl (pv_nil _)
    ffn ?_
  refine lt_end ?_
  refine ago_seqE E9_42 ?_
  refine ago_cut (fun ρ => ρ 4 = p5 ∧ ρ 6 = p138 ∧ True) ⟨h4, h6, trivial⟩ (fun ρ ⟨h4, h6, _⟩ => ?_)
  obtain ⟨b682, i683, x685, hp684, hg686, H⟩ := H
  obtain ⟨hp687, H⟩ := H
  obtain ⟨b689, i690, p688, hp691, hv692, H⟩ := H
  obtain ⟨b693, i694, hp695, c696, hg712, c697, hg713, c698, hg714, c699, hg715, c700, hg716, c701, hg717, c702, hg718, c703, hg719, c704, hg720, c705, hg721, c706, hg722, c707, hg723, c708, hg724, c709, hg725, c710, hg726, c711, hg727, H⟩ := H
  obtain ⟨b728, i729, x731, hp730, hg732, H⟩ := H
  obtain ⟨hp733, H⟩ := H
  obtain ⟨b735, i736, p734, hp737, hv738, H⟩ := H
  obtain ⟨b739, i740, hp741, c742, hg758, c743, hg759, c744, hg760, c745, hg761, c746, hg762, c747, hg763, c748, hg764, c749, hg765, c750, hg766, c751, hg767, c752, hg768, c753, hg769, c754, hg770, c755, hg771, c756, hg772, c757, hg773, H⟩ := H
  refine ago_drawXH (p := [0, 1, 2, 3, 4, 5, 6, 7]) (x := 13) (d := 7) (pre := [(8, [0, 1, 2, 3], []), (9, [], [10, 11, 12])]) (qx := [10, 11, 12]) (nhx := []) (post := [(14, [12], [15])]) (cells := [.int .u64 0]) (elem := 24) (esz := 0) (mkv := fun b => .pointer (some ⟨b, 0, none⟩)) (hv := [(0, x685), (1, x685), (2, p688), (3, Value.agg #[.int .i64 c696, .int .i64 c697, .int .i64 c698, .int .u64 c699, .int .i64 c700, .int .u64 c701, .int .u64 c702, c703, c704, .int .u64 c705, .int .u8 c706, .int .i64 c707, .int .i64 c708, c709, c710, c711]), (4, x731), (5, x731), (6, p734), (7, Value.agg #[.int .i64 c742, .int .i64 c743, .int .i64 c744, .int .u64 c745, .int .i64 c746, .int .u64 c747, .int .u64 c748, c749, c750, .int .u64 c751, .int .u8 c752, .int .i64 c753, .int .i64 c754, c755, c756, c757])]) E9_43 mixed R9_15_N R9_15_O rfl rfl rfl (makes_alloc rfl z24 rfl rfl) rfl (pv_cons rfl (pv_cons rfl (pv_cons rfl (pv_cons rfl (pv_cons rfl (pv_cons rfl (pv_cons rfl (pv_cons rfl (pv_nil _)))))))))
    (ffc (d := 105) (v := x685) (hd_v rfl fun ρ hρ => ⟨rfl, ov_ldV rfl underlying73 rfl rfl ((hρ 6 (lmem rfl)).trans h6) hp684 hg686⟩) rfl rfl
    (ffc (d := 106) (v := x685) (hd_v rfl fun ρ hρ => ⟨rfl, ov_nck rfl rfl ((hρ 105 (lmem rfl)).trans rfl) hp687⟩) rfl rfl
    (ffc (d := 107) (v := p688) (hd_v rfl fun ρ hρ => ⟨rfl, ov_fldA rfl rfl underlying76 rfl sz30 (by decide) ((hρ 106 (lmem rfl)).trans rfl) hp691 rfl hv692⟩) rfl rfl
    (ffc (d := 108) (v := .agg #[.int .i64 c696, .int .i64 c697, .int .i64 c698, .int .u64 c699, .int .i64 c700, .int .u64 c701, .int .u64 c702, c703, c704, .int .u64 c705, .int .u8 c706, .int .i64 c707, .int .i64 c708, c709, c710, c711]) (hd_v rfl fun ρ hρ => ⟨rfl, ov_ldN rfl underlying30 rfl sz30 rfl ((hρ 107 (lmem rfl)).trans rfl) hp695 (getN_cons hg712 (getN_cons hg713 (getN_cons hg714 (getN_cons hg715 (getN_cons hg716 (getN_cons hg717 (getN_cons hg718 (getN_cons hg719 (getN_cons hg720 (getN_cons hg721 (getN_cons hg722 (getN_cons hg723 (getN_cons hg724 (getN_cons hg725 (getN_cons hg726 (getN_cons hg727 getN_nil))))))))))))))))⟩) rfl rfl
    (ffc (d := 109) (v := x731) (hd_v rfl fun ρ hρ => ⟨rfl, ov_ldV rfl underlying73 rfl rfl ((hρ 6 (lmem rfl)).trans h6) hp730 hg732⟩) rfl rfl
    (ffc (d := 110) (v := x731) (hd_v rfl fun ρ hρ => ⟨rfl, ov_nck rfl rfl ((hρ 109 (lmem rfl)).trans rfl) hp733⟩) rfl rfl
    (ffc (d := 111) (v := p734) (hd_v rfl fun ρ hρ => ⟨rfl, ov_fldA rfl rfl underlying76 rfl sz30 (by decide) ((hρ 110 (lmem rfl)).trans rfl) hp737 rfl hv738⟩) rfl rfl
    (ffc (d := 112) (v := .agg #[.int .i64 c742, .int .i64 c743, .int .i64 c744, .int .u64 c745, .int .i64 c746, .int .u64 c747, .int .u64 c748, c749, c750, .int .u64 c751, .int .u8 c752, .int .i64 c753, .int .i64 c754, c755, c756, c757]) (hd_v rfl fun ρ hρ => ⟨rfl, ov_ldN rfl underlying30 rfl sz30 rfl ((hρ 111 (lmem rfl)).trans rfl) hp741 (getN_cons hg758 (getN_cons hg759 (getN_cons hg760 (getN_cons hg761 (getN_cons hg762 (getN_cons hg763 (getN_cons hg764 (getN_cons hg765 (getN_cons hg766 (getN_cons hg767 (getN_cons hg768 (getN_cons hg769 (getN_cons hg770 (getN_cons hg771 (getN_cons hg772 (getN_cons hg773 getN_nil))))))))))))))))⟩) rfl rfl
    ffn)))))))) ?_
  refine lx_call (dt := some 113) rfl rfl (fun ρ hρ => ⟨rfl, opc_of rfl rfl is22 (ma_cons ((hρ 112 (lmem rfl)).trans rfl) rfl)⟩) H (fun _ _ h => h) fun r774 aw775 H => ?_
  obtain ⟨hg686, H⟩ := H
  replace hg686 := hg686 _ _ hp684
  obtain ⟨hg712, H⟩ := H
  obtain ⟨hg713, H⟩ := H
  obtain ⟨hg714, H⟩ := H
  obtain ⟨hg715, H⟩ := H
  obtain ⟨hg716, H⟩ := H
  obtain ⟨hg717, H⟩ := H
  obtain ⟨hg718, H⟩ := H
  obtain ⟨hg719, H⟩ := H
  obtain ⟨hg720, H⟩ := H
  obtain ⟨hg721, H⟩ := H
  obtain ⟨hg722, H⟩ := H
  obtain ⟨hg723, H⟩ := H
  obtain ⟨hg724, H⟩ := H
  obtain ⟨hg725, H⟩ := H
  obtain ⟨hg726, H⟩ := H
  obtain ⟨hg727, H⟩ := H
  refine lx_next (l := [0, 1, 2, 3]) (hv := []) rfl rfl (pv_nil _)
    (ffc (d := 105) (v := x685) (hd_v rfl fun ρ hρ => ⟨rfl, ov_ldV rfl underlying73 rfl rfl ((hρ 6 (lmem rfl)).trans h6) hp684 hg686⟩) rfl rfl
    (ffc (d := 106) (v := x685) (hd_v rfl fun ρ hρ => ⟨rfl, ov_nck rfl rfl ((hρ 105 (lmem rfl)).trans rfl) hp687⟩) rfl rfl
    (ffc (d := 107) (v := p688) (hd_v rfl fun ρ hρ => ⟨rfl, ov_fldA rfl rfl underlying76 rfl sz30 (by decide) ((hρ 106 (lmem rfl)).trans rfl) hp691 rfl hv692⟩) rfl rfl
    (ffc (d := 108) (v := .agg #[.int .i64 c696, .int .i64 c697, .int .i64 c698, .int .u64 c699, .int .i64 c700, .int .u64 c701, .int .u64 c702, c703, c704, .int .u64 c705, .int .u8 c706, .int .i64 c707, .int .i64 c708, c709, c710, c711]) (hd_v rfl fun ρ hρ => ⟨rfl, ov_ldN rfl underlying30 rfl sz30 rfl ((hρ 107 (lmem rfl)).trans rfl) hp695 (getN_cons hg712 (getN_cons hg713 (getN_cons hg714 (getN_cons hg715 (getN_cons hg716 (getN_cons hg717 (getN_cons hg718 (getN_cons hg719 (getN_cons hg720 (getN_cons hg721 (getN_cons hg722 (getN_cons hg723 (getN_cons hg724 (getN_cons hg725 (getN_cons hg726 (getN_cons hg727 getN_nil))))))))))))))))⟩) rfl rfl
    ffn)))) ?_
  refine lx_call (dt := some 114) rfl rfl (fun ρ hρ => ⟨rfl, opc_of rfl rfl is27 (ma_cons ((hρ 108 (lmem rfl)).trans rfl) (ma_cons ((hρ 113 (lmem rfl)).trans rfl) rfl))⟩) H (fun _ _ h => h) fun r776 aw777 H => ?_
  refine lx_next (l := [10, 11, 12]) (hv := [(10, Value.tuple #[.int .u64 r776.1, .bool r776.2]), (11, Value.int .u64 r776.1), (12, Value.bool r776.2)]) rfl rfl (pv_cons rfl (pv_cons rfl (pv_cons rfl (pv_nil _))))
    (ffc (d := 104) (v := .tuple #[.int .u64 r776.1, .bool r776.2]) (hd_v rfl fun ρ hρ => ⟨rfl, opv_move rfl rfl ((hρ 114 (lmem rfl)).trans rfl)⟩) rfl rfl
    (ffc (d := 115) (v := .int .u64 r776.1) (hd_v rfl fun ρ hρ => ⟨rfl, opv_extract rfl rfl ((hρ 104 (lmem rfl)).trans rfl) rfl⟩) rfl rfl
    (ffc (d := 116) (v := .bool r776.2) (hd_v rfl fun ρ hρ => ⟨rfl, opv_extract rfl rfl ((hρ 104 (lmem rfl)).trans rfl) rfl⟩) rfl rfl
    ffn))) ?_
  obtain ⟨hr778, p779, aw780, hp781, ha782, H⟩ := H
  refine lx_met (v := p779) (l := [10, 11, 12]) (hv := []) hr778 hp781 ha782 rfl rfl (pv_nil _)
    (ffc (d := 104) (v := .tuple #[.int .u64 r776.1, .bool r776.2]) (hd_v rfl fun ρ hρ => ⟨rfl, opv_move rfl rfl ((hρ 114 (lmem rfl)).trans rfl)⟩) rfl rfl
    (ffc (d := 115) (v := .int .u64 r776.1) (hd_v rfl fun ρ hρ => ⟨rfl, opv_extract rfl rfl ((hρ 104 (lmem rfl)).trans rfl) rfl⟩) rfl rfl
    (ffc (d := 116) (v := .bool r776.2) (hd_v rfl fun ρ hρ => ⟨rfl, opv_extract rfl rfl ((hρ 104 (lmem rfl)).trans rfl) rfl⟩) rfl rfl
    ffn))) ?_
  obtain ⟨b784, i785, aw783, hp786, hw787, ho788, ha789, H⟩ := H
  refine lt_val (dt := none) (v := undef) rfl rfl (fun ρ hρ => ⟨rfl, ov_st rfl rfl rfl ((hρ 7 (lmem rfl)).trans rfl) ((hρ 115 (lmem rfl)).trans rfl) rfl sz24 hp786 hw787 ho788 ha789⟩) ?_
  refine lt_next (l := [12, 15]) (hv := [(15, Value.bool r776.2)]) rfl rfl (pv_cons rfl (pv_nil _))
    (ffc (d := 116) (v := .bool r776.2) (hd_v rfl fun ρ hρ => ⟨rfl, opv_extract rfl rfl ((hρ 104 (lmem rfl)).trans rfl) rfl⟩) rfl rfl
    (ffc (d := 8) (v := .bool r776.2) (hd_v rfl fun ρ hρ => ⟨rfl, opv_assign rfl rfl ((hρ 116 (lmem rfl)).trans rfl)⟩) rfl rfl
    ffn)) ?_
  refine lt_end ?_
  refine ago_seqE E9_44 ?_
  refine ago_cut (fun ρ => ρ 4 = p5 ∧ ρ 6 = p138 ∧ ρ 7 = p779 ∧ True) ⟨h4, h6, rfl, trivial⟩ (fun ρ ⟨h4, h6, h7, _⟩ => ?_)
  refine ago_regE E9_45 (l := [0, 1, 2]) rfl ?_
  obtain ⟨b790, i791, x793, hp792, hg794, H⟩ := H
  refine lk (dt := some 117) R9_16_N rfl rfl rfl (ov_ldV rfl underlying73 rfl rfl h6 hp792 hg794) ?_
  refine lk (dt := some 118) R9_16_N rfl rfl rfl (ov_mkF rfl rfl rfl rfl (ma_cons h6 (ma_cons h7 rfl))) ?_
  refine lk_call (dt := some 119) R9_16_N rfl rfl rfl (opc_of rfl rfl is24 (ma_cons rfl (ma_cons rfl rfl))) H (fun _ _ h => ⟨rfl, h⟩) fun r795 aw796 H => ?_
  refine aops_nil ?_
  refine ago_seqE E9_46 ?_
  refine ago_regE E9_47 (l := [0, 1]) rfl ?_
  obtain ⟨b797, i798, x800, hp799, hg801, H⟩ := H
  refine lk (dt := some 120) R9_17_N rfl rfl rfl (ov_ldV rfl underlying73 rfl rfl h6 hp799 hg801) ?_
  refine lk_call (dt := some 121) R9_17_N rfl rfl rfl (opc_of rfl rfl is30 (ma_cons rfl rfl)) H (fun _ _ h => ⟨rfl, h⟩) fun r802 aw803 H => ?_
  refine aops_nil ?_
  refine ago_seqE E9_48 ?_
  obtain ⟨b804, i805, x807, hp806, hg808, H⟩ := H
  obtain ⟨hp809, H⟩ := H
  obtain ⟨b811, i812, p810, hp813, hv814, H⟩ := H
  obtain ⟨b815, i816, hp817, c818, hg834, c819, hg835, c820, hg836, c821, hg837, c822, hg838, c823, hg839, c824, hg840, c825, hg841, c826, hg842, c827, hg843, c828, hg844, c829, hg845, c830, hg846, c831, hg847, c832, hg848, c833, hg849, H⟩ := H
  obtain ⟨b850, i851, x853, hp852, hg854, H⟩ := H
  obtain ⟨hp855, H⟩ := H
  obtain ⟨b857, i858, p856, hp859, hv860, H⟩ := H
  obtain ⟨b861, i862, x864, hp863, hg865, H⟩ := H
  refine ago_drawH (p := [0, 1, 2, 3, 4, 5, 6, 7]) (tl := [(8, [4, 5, 6, 7], [9])]) (hv := [(0, x807), (1, x807), (2, p810), (3, Value.agg #[.int .i64 c818, .int .i64 c819, .int .i64 c820, .int .u64 c821, .int .i64 c822, .int .u64 c823, .int .u64 c824, c825, c826, .int .u64 c827, .int .u8 c828, .int .i64 c829, .int .i64 c830, c831, c832, c833]), (4, x853), (5, x853), (6, p856), (7, x864)]) E9_49 mixed R9_18_N R9_18_O rfl (pv_cons rfl (pv_cons rfl (pv_cons rfl (pv_cons rfl (pv_cons rfl (pv_cons rfl (pv_cons rfl (pv_cons rfl (pv_nil _)))))))))
    (ffc (d := 122) (v := x807) (hd_v rfl fun ρ hρ => ⟨rfl, ov_ldV rfl underlying73 rfl rfl ((hρ 6 (lmem rfl)).trans h6) hp806 hg808⟩) rfl rfl
    (ffc (d := 123) (v := x807) (hd_v rfl fun ρ hρ => ⟨rfl, ov_nck rfl rfl ((hρ 122 (lmem rfl)).trans rfl) hp809⟩) rfl rfl
    (ffc (d := 124) (v := p810) (hd_v rfl fun ρ hρ => ⟨rfl, ov_fldA rfl rfl underlying76 rfl sz30 (by decide) ((hρ 123 (lmem rfl)).trans rfl) hp813 rfl hv814⟩) rfl rfl
    (ffc (d := 125) (v := .agg #[.int .i64 c818, .int .i64 c819, .int .i64 c820, .int .u64 c821, .int .i64 c822, .int .u64 c823, .int .u64 c824, c825, c826, .int .u64 c827, .int .u8 c828, .int .i64 c829, .int .i64 c830, c831, c832, c833]) (hd_v rfl fun ρ hρ => ⟨rfl, ov_ldN rfl underlying30 rfl sz30 rfl ((hρ 124 (lmem rfl)).trans rfl) hp817 (getN_cons hg834 (getN_cons hg835 (getN_cons hg836 (getN_cons hg837 (getN_cons hg838 (getN_cons hg839 (getN_cons hg840 (getN_cons hg841 (getN_cons hg842 (getN_cons hg843 (getN_cons hg844 (getN_cons hg845 (getN_cons hg846 (getN_cons hg847 (getN_cons hg848 (getN_cons hg849 getN_nil))))))))))))))))⟩) rfl rfl
    (ffc (d := 126) (v := x853) (hd_v rfl fun ρ hρ => ⟨rfl, ov_ldV rfl underlying73 rfl rfl ((hρ 6 (lmem rfl)).trans h6) hp852 hg854⟩) rfl rfl
    (ffc (d := 127) (v := x853) (hd_v rfl fun ρ hρ => ⟨rfl, ov_nck rfl rfl ((hρ 126 (lmem rfl)).trans rfl) hp855⟩) rfl rfl
    (ffc (d := 128) (v := p856) (hd_v rfl fun ρ hρ => ⟨rfl, ov_fldA rfl rfl underlying76 rfl sz34 (by decide) ((hρ 127 (lmem rfl)).trans rfl) hp859 rfl hv860⟩) rfl rfl
    (ffc (d := 129) (v := x864) (hd_v rfl fun ρ hρ => ⟨rfl, ov_ldV rfl underlying34 rfl rfl ((hρ 128 (lmem rfl)).trans rfl) hp863 hg865⟩) rfl rfl
    ffn)))))))) ?_
  obtain ⟨b867, i868, aw866, hp869, hw870, ho871, ha872, H⟩ := H
  refine lt_val (dt := none) (v := undef) rfl rfl (fun ρ hρ => ⟨rfl, ov_st rfl rfl rfl ((hρ 4 (lmem rfl)).trans h4) ((hρ 125 (lmem rfl)).trans rfl) rfl sz30 hp869 hw870 ho871 ha872⟩) ?_
  obtain ⟨hg854, H⟩ := H
  replace hg854 := hg854 _ _ hp852
  obtain ⟨hg865, H⟩ := H
  replace hg865 := hg865 _ _ hp863
  refine lt_next (l := [4, 5, 6, 7, 9]) (hv := [(9, x864)]) rfl rfl (pv_cons rfl (pv_nil _))
    (ffc (d := 126) (v := x853) (hd_v rfl fun ρ hρ => ⟨rfl, ov_ldV rfl underlying73 rfl rfl ((hρ 6 (lmem rfl)).trans h6) hp852 hg854⟩) rfl rfl
    (ffc (d := 127) (v := x853) (hd_v rfl fun ρ hρ => ⟨rfl, ov_nck rfl rfl ((hρ 126 (lmem rfl)).trans rfl) hp855⟩) rfl rfl
    (ffc (d := 128) (v := p856) (hd_v rfl fun ρ hρ => ⟨rfl, ov_fldA rfl rfl underlying76 rfl sz34 (by decide) ((hρ 127 (lmem rfl)).trans rfl) hp859 rfl hv860⟩) rfl rfl
    (ffc (d := 129) (v := x864) (hd_v rfl fun ρ hρ => ⟨rfl, ov_ldV rfl underlying34 rfl rfl ((hρ 128 (lmem rfl)).trans rfl) hp863 hg865⟩) rfl rfl
    (ffc (d := 5) (v := x864) (hd_v rfl fun ρ hρ => ⟨rfl, opv_assign rfl rfl ((hρ 129 (lmem rfl)).trans rfl)⟩) rfl rfl
    ffn))))) ?_
  refine lt_end ?_
  obtain ⟨b873, i874, hp875, c876, hg892, c877, hg893, c878, hg894, c879, hg895, c880, hg896, c881, hg897, c882, hg898, c883, hg899, c884, hg900, c885, hg901, c886, hg902, c887, hg903, c888, hg904, c889, hg905, c890, hg906, c891, hg907, H⟩ := H
  exact ago_retE E9_50 (r := (c876, c877, c878, c879, c880, c881, c882, c883, c884, c885, c886, c887, c888, c889, c890, c891, x864)) (ares_2 rfl (oneN h4 hp875 underlying30 rfl sz30 (getN_cons hg892 (getN_cons hg893 (getN_cons hg894 (getN_cons hg895 (getN_cons hg896 (getN_cons hg897 (getN_cons hg898 (getN_cons hg899 (getN_cons hg900 (getN_cons hg901 (getN_cons hg902 (getN_cons hg903 (getN_cons hg904 (getN_cons hg905 (getN_cons hg906 (getN_cons hg907 getN_nil))))))))))))))))) (oneT rfl)) rfl H
theorem F9_ok {Q : (Int × Int × Int × Int × Int × Int × Int × Value × Value × Int × Int × Int × Int × Value × Value × Value × Value) → AW → Prop} {E : List PanicEntry → AW → Prop} (s_0_0 : Int) (s_0_1 : Int) (s_0_2 : Int) (s_0_3 : Int) (s_0_4 : Int) (s_0_5 : Int) (s_0_6 : Int) (s_0_7 : Value) (s_0_8 : Value) (s_0_9 : Int) (s_0_10 : Int) (s_0_11 : Int) (s_0_12 : Int) (s_0_13 : Value) (s_0_14 : Value) (s_0_15 : Value) (draw_1 : Int) (aw : AW) (H : S9_0 Q E s_0_0 s_0_1 s_0_2 s_0_3 s_0_4 s_0_5 s_0_6 s_0_7 s_0_8 s_0_9 s_0_10 s_0_11 s_0_12 s_0_13 s_0_14 s_0_15 draw_1 aw) : CallP prog 9 [.agg #[.int .i64 s_0_0, .int .i64 s_0_1, .int .i64 s_0_2, .int .u64 s_0_3, .int .i64 s_0_4, .int .u64 s_0_5, .int .u64 s_0_6, s_0_7, s_0_8, .int .u64 s_0_9, .int .u8 s_0_10, .int .i64 s_0_11, .int .i64 s_0_12, s_0_13, s_0_14, s_0_15], .int .i64 draw_1] aw sh9 Q E :=
  callP_of func9 C9_is rfl (Nat.le_of_ble_eq_true rfl) (S9_0_ok Q E _ s_0_0 s_0_1 s_0_2 s_0_3 s_0_4 s_0_5 s_0_6 s_0_7 s_0_8 s_0_9 s_0_10 s_0_11 s_0_12 s_0_13 s_0_14 s_0_15 draw_1 aw rfl rfl H)
def C10_0 : Code := bodyOf f10
theorem C10_is : f10.body = some C10_0 := by kernel_rfl
def C10_1 : Code := cl C10_0
def R10_0 : Array Oper := regOps C10_1
def C10_2 : Code := cr C10_0
def C10_3 : Code := cl C10_2
def C10_4 : Code := cl C10_3
def C10_5 : Code := cl C10_4
def R10_1 : Array Oper := regOps C10_5
def C10_6 : Code := cr C10_4
def C10_7 : Code := cl C10_6
def C10_8 : Code := cl C10_7
def R10_2 : Array Oper := regOps C10_8
def C10_9 : Code := cr C10_7
def C10_10 : Code := cr C10_6
def C10_11 : Code := cl C10_10
def R10_3 : Array Oper := regOps C10_11
def C10_12 : Code := cr C10_10
def C10_13 : Code := cl C10_12
def C10_14 : Code := cl C10_13
def R10_4 : Array Oper := regOps C10_14
def C10_15 : Code := cr C10_13
def C10_16 : Code := cr C10_12
def C10_17 : Code := cr C10_2
def C10_18 : Code := cl C10_17
def R10_5 : Array Oper := regOps C10_18
def C10_19 : Code := cr C10_17
def C10_20 : Code := cl C10_19
def R10_6 : Array Oper := regOps C10_20
def C10_21 : Code := cr C10_19
def C10_22 : Code := cl C10_21
def R10_7 : Array Oper := regOps C10_22
def C10_23 : Code := cr C10_21
theorem R10_0_N : dstsOk 51 R10_0 = true := by decide +kernel
theorem E10_1 : C10_1 = .region 0 R10_0 false := rfl
theorem R10_1_N : dstsOk 51 R10_1 = true := by decide +kernel
theorem E10_5 : C10_5 = .region 1 R10_1 false := rfl
theorem R10_2_N : dstsOk 51 R10_2 = true := by decide +kernel
theorem E10_8 : C10_8 = .region 2 R10_2 false := rfl
theorem E10_9 : C10_9 = .ret := rfl
theorem E10_7 : C10_7 = .seq C10_8 C10_9 := rfl
theorem R10_3_N : dstsOk 51 R10_3 = true := by decide +kernel
theorem E10_11 : C10_11 = .region 3 R10_3 false := rfl
theorem R10_4_N : dstsOk 51 R10_4 = true := by decide +kernel
theorem E10_14 : C10_14 = .region 4 R10_4 false := rfl
theorem E10_15 : C10_15 = .ret := rfl
theorem E10_13 : C10_13 = .seq C10_14 C10_15 := rfl
theorem E10_16 : C10_16 = .skip := rfl
theorem E10_12 : C10_12 = .cond (.tmp 23) C10_13 C10_16 := rfl
theorem E10_10 : C10_10 = .seq C10_11 C10_12 := rfl
theorem E10_6 : C10_6 = .cond (.tmp 13) C10_7 C10_10 := rfl
theorem E10_4 : C10_4 = .seq C10_5 C10_6 := rfl
theorem E10_3 : C10_3 = .block 0 C10_4 := rfl
theorem R10_5_N : dstsOk 51 R10_5 = true := by decide +kernel
theorem E10_18 : C10_18 = .region 5 R10_5 false := rfl
theorem R10_6_N : dstsOk 51 R10_6 = true := by decide +kernel
theorem E10_20 : C10_20 = .region 6 R10_6 false := rfl
theorem R10_7_N : dstsOk 51 R10_7 = true := by decide +kernel
theorem R10_7_O : linOk R10_7 [0, 1, 2, 3, 4, 5, 6, 7, 8, 9, 10, 11] [(12, [0, 1, 2, 3, 4, 5, 6, 7], []), (13, [4, 5, 6, 7], [14, 15, 16])] = true := by decide +kernel
theorem E10_22 : C10_22 = .region 7 R10_7 true := rfl
theorem E10_23 : C10_23 = .ret := rfl
theorem E10_21 : C10_21 = .seq C10_22 C10_23 := rfl
theorem E10_19 : C10_19 = .seq C10_20 C10_21 := rfl
theorem E10_17 : C10_17 = .seq C10_18 C10_19 := rfl
theorem E10_2 : C10_2 = .seq C10_3 C10_17 := rfl
theorem E10_0 : C10_0 = .seq C10_1 C10_2 := rfl
def S10_1 (Q : (Int × Int × Int × Int × Int × Int × Int × Value × Value × Int × Int × Int × Int × Value × Value × Value × Value × Int × Int) → AW → Prop) (E : List PanicEntry → AW → Prop)  (session_1 : Int) (number_2 : Int) (cell_3 : Value) (s_4 : Value) (t_8 : Value) (t_13 : Bool) (aw : AW) : Prop :=
  cnd t_13 (ptr s_4 fun b2 i3 =>
  gI .i64 aw b2 i3 fun c5 =>
  gI .i64 aw b2 (i3 + 1) fun c6 =>
  gI .i64 aw b2 (i3 + 2) fun c7 =>
  gI .u64 aw b2 (i3 + 3) fun c8 =>
  gI .i64 aw b2 (i3 + 4) fun c9 =>
  gI .u64 aw b2 (i3 + 5) fun c10 =>
  gI .u64 aw b2 (i3 + 6) fun c11 =>
  gV aw b2 (i3 + 7) fun c12 =>
  gV aw b2 (i3 + 8) fun c13 =>
  gI .u64 aw b2 (i3 + 9) fun c14 =>
  gI .u8 aw b2 (i3 + 10) fun c15 =>
  gI .i64 aw b2 (i3 + 11) fun c16 =>
  gI .i64 aw b2 (i3 + 12) fun c17 =>
  gV aw b2 (i3 + 13) fun c18 =>
  gV aw b2 (i3 + 14) fun c19 =>
  gV aw b2 (i3 + 15) fun c20 =>
  st aw t_8 [.int .i64 c5, .int .i64 c6, .int .i64 c7, .int .u64 c8, .int .i64 c9, .int .u64 c10, .int .u64 c11, c12, c13, .int .u64 c14, .int .u8 c15, .int .i64 c16, .int .i64 c17, c18, c19, c20] fun aw37 =>
  ptr t_8 fun b44 i45 => gI .i64 aw37 b44 i45 fun c47 => gI .i64 aw37 b44 (i45 + 1) fun c48 => gI .i64 aw37 b44 (i45 + 2) fun c49 => gI .u64 aw37 b44 (i45 + 3) fun c50 => gI .i64 aw37 b44 (i45 + 4) fun c51 => gI .u64 aw37 b44 (i45 + 5) fun c52 => gI .u64 aw37 b44 (i45 + 6) fun c53 => gV aw37 b44 (i45 + 7) fun c54 => gV aw37 b44 (i45 + 8) fun c55 => gI .u64 aw37 b44 (i45 + 9) fun c56 => gI .u8 aw37 b44 (i45 + 10) fun c57 => gI .i64 aw37 b44 (i45 + 11) fun c58 => gI .i64 aw37 b44 (i45 + 12) fun c59 => gV aw37 b44 (i45 + 13) fun c60 => gV aw37 b44 (i45 + 14) fun c61 => gV aw37 b44 (i45 + 15) fun c62 => Q (c47, c48, c49, c50, c51, c52, c53, c54, c55, c56, c57, c58, c59, c60, c61, c62, (.slice none 0 0), 0, 17) aw37) (slen cell_3 fun n79 =>
  cnd (decide (2000 < n79)) (ptr s_4 fun b86 i87 =>
  gI .i64 aw b86 i87 fun c89 =>
  gI .i64 aw b86 (i87 + 1) fun c90 =>
  gI .i64 aw b86 (i87 + 2) fun c91 =>
  gI .u64 aw b86 (i87 + 3) fun c92 =>
  gI .i64 aw b86 (i87 + 4) fun c93 =>
  gI .u64 aw b86 (i87 + 5) fun c94 =>
  gI .u64 aw b86 (i87 + 6) fun c95 =>
  gV aw b86 (i87 + 7) fun c96 =>
  gV aw b86 (i87 + 8) fun c97 =>
  gI .u64 aw b86 (i87 + 9) fun c98 =>
  gI .u8 aw b86 (i87 + 10) fun c99 =>
  gI .i64 aw b86 (i87 + 11) fun c100 =>
  gI .i64 aw b86 (i87 + 12) fun c101 =>
  gV aw b86 (i87 + 13) fun c102 =>
  gV aw b86 (i87 + 14) fun c103 =>
  gV aw b86 (i87 + 15) fun c104 =>
  st aw t_8 [.int .i64 c89, .int .i64 c90, .int .i64 c91, .int .u64 c92, .int .i64 c93, .int .u64 c94, .int .u64 c95, c96, c97, .int .u64 c98, .int .u8 c99, .int .i64 c100, .int .i64 c101, c102, c103, c104] fun aw121 =>
  ptr t_8 fun b128 i129 => gI .i64 aw121 b128 i129 fun c131 => gI .i64 aw121 b128 (i129 + 1) fun c132 => gI .i64 aw121 b128 (i129 + 2) fun c133 => gI .u64 aw121 b128 (i129 + 3) fun c134 => gI .i64 aw121 b128 (i129 + 4) fun c135 => gI .u64 aw121 b128 (i129 + 5) fun c136 => gI .u64 aw121 b128 (i129 + 6) fun c137 => gV aw121 b128 (i129 + 7) fun c138 => gV aw121 b128 (i129 + 8) fun c139 => gI .u64 aw121 b128 (i129 + 9) fun c140 => gI .u8 aw121 b128 (i129 + 10) fun c141 => gI .i64 aw121 b128 (i129 + 11) fun c142 => gI .i64 aw121 b128 (i129 + 12) fun c143 => gV aw121 b128 (i129 + 13) fun c144 => gV aw121 b128 (i129 + 14) fun c145 => gV aw121 b128 (i129 + 15) fun c146 => Q (c131, c132, c133, c134, c135, c136, c137, c138, c139, c140, c141, c142, c143, c144, c145, c146, (.slice none 0 0), 0, 2) aw121) (ptr s_4 fun b163 i164 =>
  gI .i64 aw b163 i164 fun c166 =>
  gI .i64 aw b163 (i164 + 1) fun c167 =>
  gI .i64 aw b163 (i164 + 2) fun c168 =>
  gI .u64 aw b163 (i164 + 3) fun c169 =>
  gI .i64 aw b163 (i164 + 4) fun c170 =>
  gI .u64 aw b163 (i164 + 5) fun c171 =>
  gI .u64 aw b163 (i164 + 6) fun c172 =>
  gV aw b163 (i164 + 7) fun c173 =>
  gV aw b163 (i164 + 8) fun c174 =>
  gI .u64 aw b163 (i164 + 9) fun c175 =>
  gI .u8 aw b163 (i164 + 10) fun c176 =>
  gI .i64 aw b163 (i164 + 11) fun c177 =>
  gI .i64 aw b163 (i164 + 12) fun c178 =>
  gV aw b163 (i164 + 13) fun c179 =>
  gV aw b163 (i164 + 14) fun c180 =>
  gV aw b163 (i164 + 15) fun c181 =>
  CallP prog 23 [.agg #[.int .i64 c166, .int .i64 c167, .int .i64 c168, .int .u64 c169, .int .i64 c170, .int .u64 c171, .int .u64 c172, c173, c174, .int .u64 c175, .int .u8 c176, .int .i64 c177, .int .i64 c178, c179, c180, c181]] aw sh23 (fun r198 aw199 =>
  alc aw199 [.int .i64 r198.1, .int .i64 r198.2.1, .int .i64 r198.2.2.1, .int .u64 r198.2.2.2.1, .int .i64 r198.2.2.2.2.1, .int .u64 r198.2.2.2.2.2.1, .int .u64 r198.2.2.2.2.2.2.1, r198.2.2.2.2.2.2.2.1, r198.2.2.2.2.2.2.2.2.1, .int .u64 r198.2.2.2.2.2.2.2.2.2.1, .int .u8 r198.2.2.2.2.2.2.2.2.2.2.1, .int .i64 r198.2.2.2.2.2.2.2.2.2.2.2.1, .int .i64 r198.2.2.2.2.2.2.2.2.2.2.2.2.1, r198.2.2.2.2.2.2.2.2.2.2.2.2.2.1, r198.2.2.2.2.2.2.2.2.2.2.2.2.2.2.1, r198.2.2.2.2.2.2.2.2.2.2.2.2.2.2.2, (.slice none 0 0)] 76 0 fun p200 aw201 =>
  one cell_3 = true ∧ CallP prog 31 [p200, .agg #[.int .u64 0, .int .u64 session_1, .int .u64 number_2, cell_3]] aw201 sh31 (fun r205 aw206 =>
  nck p200 (fldA p200 0 fun p208 =>
  ptr p208 fun b213 i214 =>
  gI .i64 aw206 b213 i214 fun c216 =>
  gI .i64 aw206 b213 (i214 + 1) fun c217 =>
  gI .i64 aw206 b213 (i214 + 2) fun c218 =>
  gI .u64 aw206 b213 (i214 + 3) fun c219 =>
  gI .i64 aw206 b213 (i214 + 4) fun c220 =>
  gI .u64 aw206 b213 (i214 + 5) fun c221 =>
  gI .u64 aw206 b213 (i214 + 6) fun c222 =>
  gV aw206 b213 (i214 + 7) fun c223 =>
  gV aw206 b213 (i214 + 8) fun c224 =>
  gI .u64 aw206 b213 (i214 + 9) fun c225 =>
  gI .u8 aw206 b213 (i214 + 10) fun c226 =>
  gI .i64 aw206 b213 (i214 + 11) fun c227 =>
  gI .i64 aw206 b213 (i214 + 12) fun c228 =>
  gV aw206 b213 (i214 + 13) fun c229 =>
  gV aw206 b213 (i214 + 14) fun c230 =>
  gV aw206 b213 (i214 + 15) fun c231 =>
  nck p200 (fldA p200 16 fun p249 =>
  ldV aw206 p249 fun x257 =>
  nck p200 (fldA p200 0 fun p260 =>
  ptr p260 fun b265 i266 =>
  gI .i64 aw206 b265 i266 fun c268 =>
  gI .i64 aw206 b265 (i266 + 1) fun c269 =>
  gI .i64 aw206 b265 (i266 + 2) fun c270 =>
  gI .u64 aw206 b265 (i266 + 3) fun c271 =>
  gI .i64 aw206 b265 (i266 + 4) fun c272 =>
  gI .u64 aw206 b265 (i266 + 5) fun c273 =>
  gI .u64 aw206 b265 (i266 + 6) fun c274 =>
  gV aw206 b265 (i266 + 7) fun c275 =>
  gV aw206 b265 (i266 + 8) fun c276 =>
  gI .u64 aw206 b265 (i266 + 9) fun c277 =>
  gI .u8 aw206 b265 (i266 + 10) fun c278 =>
  gI .i64 aw206 b265 (i266 + 11) fun c279 =>
  gI .i64 aw206 b265 (i266 + 12) fun c280 =>
  gV aw206 b265 (i266 + 13) fun c281 =>
  gV aw206 b265 (i266 + 14) fun c282 =>
  gV aw206 b265 (i266 + 15) fun c283 =>
  CallP prog 22 [.agg #[.int .i64 c268, .int .i64 c269, .int .i64 c270, .int .u64 c271, .int .i64 c272, .int .u64 c273, .int .u64 c274, c275, c276, .int .u64 c277, .int .u8 c278, .int .i64 c279, .int .i64 c280, c281, c282, c283]] aw206 sh22 (fun r300 aw301 =>
  aw301.get b213 i214 = some (.int .i64 c216) ∧ aw301.get b213 (i214 + 1) = some (.int .i64 c217) ∧ aw301.get b213 (i214 + 2) = some (.int .i64 c218) ∧ aw301.get b213 (i214 + 3) = some (.int .u64 c219) ∧ aw301.get b213 (i214 + 4) = some (.int .i64 c220) ∧ aw301.get b213 (i214 + 5) = some (.int .u64 c221) ∧ aw301.get b213 (i214 + 6) = some (.int .u64 c222) ∧ aw301.get b213 (i214 + 7) = some (c223) ∧ aw301.get b213 (i214 + 8) = some (c224) ∧ aw301.get b213 (i214 + 9) = some (.int .u64 c225) ∧ aw301.get b213 (i214 + 10) = some (.int .u8 c226) ∧ aw301.get b213 (i214 + 11) = some (.int .i64 c227) ∧ aw301.get b213 (i214 + 12) = some (.int .i64 c228) ∧ aw301.get b213 (i214 + 13) = some (c229) ∧ aw301.get b213 (i214 + 14) = some (c230) ∧ aw301.get b213 (i214 + 15) = some (c231) ∧ again1 aw301 p249 (x257) ∧ st aw301 t_8 [.int .i64 c216, .int .i64 c217, .int .i64 c218, .int .u64 c219, .int .i64 c220, .int .u64 c221, .int .u64 c222, c223, c224, .int .u64 c225, .int .u8 c226, .int .i64 c227, .int .i64 c228, c229, c230, c231] fun aw302 =>
  again1 aw302 p249 (x257) ∧ ptr t_8 fun b309 i310 => gI .i64 aw302 b309 i310 fun c312 => gI .i64 aw302 b309 (i310 + 1) fun c313 => gI .i64 aw302 b309 (i310 + 2) fun c314 => gI .u64 aw302 b309 (i310 + 3) fun c315 => gI .i64 aw302 b309 (i310 + 4) fun c316 => gI .u64 aw302 b309 (i310 + 5) fun c317 => gI .u64 aw302 b309 (i310 + 6) fun c318 => gV aw302 b309 (i310 + 7) fun c319 => gV aw302 b309 (i310 + 8) fun c320 => gI .u64 aw302 b309 (i310 + 9) fun c321 => gI .u8 aw302 b309 (i310 + 10) fun c322 => gI .i64 aw302 b309 (i310 + 11) fun c323 => gI .i64 aw302 b309 (i310 + 12) fun c324 => gV aw302 b309 (i310 + 13) fun c325 => gV aw302 b309 (i310 + 14) fun c326 => gV aw302 b309 (i310 + 15) fun c327 => Q (c312, c313, c314, c315, c316, c317, c318, c319, c320, c321, c322, c323, c324, c325, c326, c327, x257, r300, 0) aw302) E)))) E) E))
def S10_0 (Q : (Int × Int × Int × Int × Int × Int × Int × Value × Value × Int × Int × Int × Int × Value × Value × Value × Value × Int × Int) → AW → Prop) (E : List PanicEntry → AW → Prop)  (s_0_0 : Int) (s_0_1 : Int) (s_0_2 : Int) (s_0_3 : Int) (s_0_4 : Int) (s_0_5 : Int) (s_0_6 : Int) (s_0_7 : Value) (s_0_8 : Value) (s_0_9 : Int) (s_0_10 : Int) (s_0_11 : Int) (s_0_12 : Int) (s_0_13 : Value) (s_0_14 : Value) (s_0_15 : Value) (session_1 : Int) (number_2 : Int) (cell_3 : Value) (aw : AW) : Prop :=
  alc aw [.int .i64 s_0_0, .int .i64 s_0_1, .int .i64 s_0_2, .int .u64 s_0_3, .int .i64 s_0_4, .int .u64 s_0_5, .int .u64 s_0_6, s_0_7, s_0_8, .int .u64 s_0_9, .int .u8 s_0_10, .int .i64 s_0_11, .int .i64 s_0_12, s_0_13, s_0_14, s_0_15] 30 0 fun p344 aw345 =>
  alc aw345 [.int .i64 0, .int .i64 0, .int .i64 0, .int .u64 0, .int .i64 0, .int .u64 0, .int .u64 0, (.slice none 0 0), (.slice none 0 0), .int .u64 0, .int .u8 0, .int .i64 0, .int .i64 0, (.slice none 0 0), (.slice none 0 0), (.slice none 0 0)] 30 0 fun p348 aw349 =>
  fldA p344 10 fun p352 =>
  ldI .u8 aw349 p352 fun x360 =>
  cnd (!decide (x360 = 2)) (S10_1 Q E  session_1 number_2 cell_3 p344 p348 true aw349) (fldA p344 0 fun p363 =>
  ldI .i64 aw349 p363 fun x371 =>
  S10_1 Q E  session_1 number_2 cell_3 p344 p348 (decide (x371 = 0)) aw349)
theorem S10_1_ok (Q : (Int × Int × Int × Int × Int × Int × Int × Value × Value × Int × Int × Int × Int × Value × Value × Value × Value × Int × Int) → AW → Prop) (E : List PanicEntry → AW → Prop)  (ρ : Env) (session_1 : Int) (number_2 : Int) (cell_3 : Value) (s_4 : Value) (t_8 : Value) (t_13 : Bool) (aw : AW) (h1 : ρ 1 = .int .u64 session_1) (h2 : ρ 2 = .int .u64 number_2) (h3 : ρ 3 = cell_3) (h4 : ρ 4 = s_4) (h8 : ρ 8 = t_8) (h13 : ρ 13 = .bool t_13) (H : S10_1 Q E  session_1 number_2 cell_3 s_4 t_8 t_13 aw) :
    AGo prog 51 [.code C10_6, .inBlock 0, .code C10_17] ρ [] aw (RR prog f10 51 sh10 Q E) := by
  unfold S10_1 at H
  refine ago_condE  E10_6 rfl h13 (fun hb1 => ?_) (fun hb1 => ?_)
  · replace H := cnd_t H hb1
    refine ago_seqE E10_7 ?_
    refine ago_regE E10_8 (l := [0, 1, 2, 3, 4]) rfl ?_
    obtain ⟨b2, i3, hp4, c5, hg21, c6, hg22, c7, hg23, c8, hg24, c9, hg25, c10, hg26, c11, hg27, c12, hg28, c13, hg29, c14, hg30, c15, hg31, c16, hg32, c17, hg33, c18, hg34, c19, hg35, c20, hg36, H⟩ := H
    refine lk (dt := some 22) R10_2_N rfl rfl rfl (ov_ldN rfl underlying30 rfl sz30 rfl h4 hp4 (getN_cons hg21 (getN_cons hg22 (getN_cons hg23 (getN_cons hg24 (getN_cons hg25 (getN_cons hg26 (getN_cons hg27 (getN_cons hg28 (getN_cons hg29 (getN_cons hg30 (getN_cons hg31 (getN_cons hg32 (getN_cons hg33 (getN_cons hg34 (getN_cons hg35 (getN_cons hg36 getN_nil))))))))))))))))) ?_
    obtain ⟨b38, i39, aw37, hp40, hw41, ho42, ha43, H⟩ := H
    refine lk (dt := none) R10_2_N rfl rfl rfl (ov_st rfl rfl rfl h8 rfl rfl sz30 hp40 hw41 ho42 ha43) ?_
    refine lk (dt := some 9) R10_2_N rfl rfl rfl (opv_assign rfl rfl rfl) ?_
    refine lk (dt := some 10) R10_2_N rfl rfl rfl (opv_assign rfl rfl rfl) ?_
    refine lk (dt := some 11) R10_2_N rfl rfl rfl (opv_assign rfl rfl rfl) ?_
    refine aops_nil ?_
    obtain ⟨b44, i45, hp46, c47, hg63, c48, hg64, c49, hg65, c50, hg66, c51, hg67, c52, hg68, c53, hg69, c54, hg70, c55, hg71, c56, hg72, c57, hg73, c58, hg74, c59, hg75, c60, hg76, c61, hg77, c62, hg78, H⟩ := H
    exact ago_retE E10_9 (r := (c47, c48, c49, c50, c51, c52, c53, c54, c55, c56, c57, c58, c59, c60, c61, c62, (.slice none 0 0), 0, 17)) (ares_4 rfl (oneN h8 hp46 underlying30 rfl sz30 (getN_cons hg63 (getN_cons hg64 (getN_cons hg65 (getN_cons hg66 (getN_cons hg67 (getN_cons hg68 (getN_cons hg69 (getN_cons hg70 (getN_cons hg71 (getN_cons hg72 (getN_cons hg73 (getN_cons hg74 (getN_cons hg75 (getN_cons hg76 (getN_cons hg77 (getN_cons hg78 getN_nil))))))))))))))))) (oneT rfl) (oneT rfl) (oneT rfl)) rfl H
  replace H := cnd_f H hb1
  refine ago_seqE E10_10 ?_
  refine ago_regE E10_11 (l := [0, 1, 2, 3]) rfl ?_
  refine lk (dt := some 24) R10_3_N rfl rfl rfl (opv_move rfl rfl h3) ?_
  obtain ⟨q80, l81, c82, n79, hv83, hn84, H⟩ := H
  refine lk (dt := some 25) R10_3_N rfl rfl rfl (ov_len rfl rfl rfl underlying25 rfl hv83 hn84) ?_
  refine lk (dt := some 26) R10_3_N rfl rfl rfl (opv_gt rfl rfl rfl rfl rfl) ?_
  refine lk (dt := some 23) R10_3_N rfl rfl rfl (opv_assign rfl rfl rfl) ?_
  refine aops_nil ?_
  refine ago_condE  E10_12 rfl rfl (fun hb85 => ?_) (fun hb85 => ?_)
  · replace H := cnd_t H hb85
    refine ago_seqE E10_13 ?_
    refine ago_regE E10_14 (l := [0, 1, 2, 3, 4]) rfl ?_
    obtain ⟨b86, i87, hp88, c89, hg105, c90, hg106, c91, hg107, c92, hg108, c93, hg109, c94, hg110, c95, hg111, c96, hg112, c97, hg113, c98, hg114, c99, hg115, c100, hg116, c101, hg117, c102, hg118, c103, hg119, c104, hg120, H⟩ := H
    refine lk (dt := some 27) R10_4_N rfl rfl rfl (ov_ldN rfl underlying30 rfl sz30 rfl h4 hp88 (getN_cons hg105 (getN_cons hg106 (getN_cons hg107 (getN_cons hg108 (getN_cons hg109 (getN_cons hg110 (getN_cons hg111 (getN_cons hg112 (getN_cons hg113 (getN_cons hg114 (getN_cons hg115 (getN_cons hg116 (getN_cons hg117 (getN_cons hg118 (getN_cons hg119 (getN_cons hg120 getN_nil))))))))))))))))) ?_
    obtain ⟨b122, i123, aw121, hp124, hw125, ho126, ha127, H⟩ := H
    refine lk (dt := none) R10_4_N rfl rfl rfl (ov_st rfl rfl rfl h8 rfl rfl sz30 hp124 hw125 ho126 ha127) ?_
    refine lk (dt := some 9) R10_4_N rfl rfl rfl (opv_assign rfl rfl rfl) ?_
    refine lk (dt := some 10) R10_4_N rfl rfl rfl (opv_assign rfl rfl rfl) ?_
    refine lk (dt := some 11) R10_4_N rfl rfl rfl (opv_assign rfl rfl rfl) ?_
    refine aops_nil ?_
    obtain ⟨b128, i129, hp130, c131, hg147, c132, hg148, c133, hg149, c134, hg150, c135, hg151, c136, hg152, c137, hg153, c138, hg154, c139, hg155, c140, hg156, c141, hg157, c142, hg158, c143, hg159, c144, hg160, c145, hg161, c146, hg162, H⟩ := H
    exact ago_retE E10_15 (r := (c131, c132, c133, c134, c135, c136, c137, c138, c139, c140, c141, c142, c143, c144, c145, c146, (.slice none 0 0), 0, 2)) (ares_4 rfl (oneN h8 hp130 underlying30 rfl sz30 (getN_cons hg147 (getN_cons hg148 (getN_cons hg149 (getN_cons hg150 (getN_cons hg151 (getN_cons hg152 (getN_cons hg153 (getN_cons hg154 (getN_cons hg155 (getN_cons hg156 (getN_cons hg157 (getN_cons hg158 (getN_cons hg159 (getN_cons hg160 (getN_cons hg161 (getN_cons hg162 getN_nil))))))))))))))))) (oneT rfl) (oneT rfl) (oneT rfl)) rfl H
  replace H := cnd_f H hb85
  refine ago_skipE E10_16 ?_
  refine ago_inBlock ?_
  refine ago_seqE E10_17 ?_
  refine ago_regE E10_18 (l := [0, 1, 2, 3, 4]) rfl ?_
  obtain ⟨b163, i164, hp165, c166, hg182, c167, hg183, c168, hg184, c169, hg185, c170, hg186, c171, hg187, c172, hg188, c173, hg189, c174, hg190, c175, hg191, c176, hg192, c177, hg193, c178, hg194, c179, hg195, c180, hg196, c181, hg197, H⟩ := H
  refine lk (dt := some 28) R10_5_N rfl rfl rfl (ov_ldN rfl underlying30 rfl sz30 rfl h4 hp165 (getN_cons hg182 (getN_cons hg183 (getN_cons hg184 (getN_cons hg185 (getN_cons hg186 (getN_cons hg187 (getN_cons hg188 (getN_cons hg189 (getN_cons hg190 (getN_cons hg191 (getN_cons hg192 (getN_cons hg193 (getN_cons hg194 (getN_cons hg195 (getN_cons hg196 (getN_cons hg197 getN_nil))))))))))))))))) ?_
  refine lk_call (dt := some 29) R10_5_N rfl rfl rfl (opc_of rfl rfl is23 (ma_cons rfl rfl)) H (fun _ _ h => ⟨rfl, h⟩) fun r198 aw199 H => ?_
  refine lk (dt := some 30) R10_5_N rfl rfl rfl (ov_bld (r := [.int .i64 r198.1, .int .i64 r198.2.1, .int .i64 r198.2.2.1, .int .u64 r198.2.2.2.1, .int .i64 r198.2.2.2.2.1, .int .u64 r198.2.2.2.2.2.1, .int .u64 r198.2.2.2.2.2.2.1, r198.2.2.2.2.2.2.2.1, r198.2.2.2.2.2.2.2.2.1, .int .u64 r198.2.2.2.2.2.2.2.2.2.1, .int .u8 r198.2.2.2.2.2.2.2.2.2.2.1, .int .i64 r198.2.2.2.2.2.2.2.2.2.2.2.1, .int .i64 r198.2.2.2.2.2.2.2.2.2.2.2.2.1, r198.2.2.2.2.2.2.2.2.2.2.2.2.2.1, r198.2.2.2.2.2.2.2.2.2.2.2.2.2.2.1, r198.2.2.2.2.2.2.2.2.2.2.2.2.2.2.2, (.slice none 0 0)]) rfl rfl bo76 (mp_cons rfl rfl) (fillP rfl rfl rfl rfl (fillN rfl))) ?_
  obtain ⟨p200, aw201, hp202, ha203, H⟩ := H
  refine lk (dt := some 31) R10_5_N rfl rfl rfl (ov_box rfl rfl rfl rfl hp202 ha203) ?_
  refine lk (dt := some 12) R10_5_N rfl rfl rfl (opv_assign rfl rfl rfl) ?_
  refine aops_nil ?_
  refine ago_seqE E10_19 ?_
  refine ago_regE E10_20 (l := [0, 1, 2, 3, 4, 5]) rfl ?_
  refine lk (dt := some 32) R10_6_N rfl rfl rfl (opv_move rfl rfl rfl) ?_
  refine lk (dt := some 33) R10_6_N rfl rfl rfl (opv_move rfl rfl h1) ?_
  refine lk (dt := some 34) R10_6_N rfl rfl rfl (opv_move rfl rfl h2) ?_
  refine lk (dt := some 35) R10_6_N rfl rfl rfl (opv_move rfl rfl h3) ?_
  obtain ⟨h1204, H⟩ := H
  refine lk (dt := some 36) R10_6_N rfl rfl rfl (ov_bld (r := [.int .u64 0, .int .u64 session_1, .int .u64 number_2, cell_3]) rfl rfl bo40 (mp_cons rfl (mp_cons rfl (mp_cons rfl rfl))) (fillP rfl rfl rfl rfl (fillP rfl rfl rfl rfl (fillP (cells_one h1204) rfl rfl rfl (fillN rfl))))) ?_
  refine lk_call (dt := some 37) R10_6_N rfl rfl rfl (opc_of rfl rfl is31 (ma_cons rfl (ma_cons rfl rfl))) H (fun _ _ h => ⟨rfl, h⟩) fun r205 aw206 H => ?_
  refine aops_nil ?_
  refine ago_seqE E10_21 ?_
  refine ago_cut (fun ρ => ρ 8 = t_8 ∧ ρ 12 = p200 ∧ True) ⟨h8, rfl, trivial⟩ (fun ρ ⟨h8, h12, _⟩ => ?_)
  obtain ⟨hp207, H⟩ := H
  obtain ⟨b209, i210, p208, hp211, hv212, H⟩ := H
  obtain ⟨b213, i214, hp215, c216, hg232, c217, hg233, c218, hg234, c219, hg235, c220, hg236, c221, hg237, c222, hg238, c223, hg239, c224, hg240, c225, hg241, c226, hg242, c227, hg243, c228, hg244, c229, hg245, c230, hg246, c231, hg247, H⟩ := H
  obtain ⟨hp248, H⟩ := H
  obtain ⟨b250, i251, p249, hp252, hv253, H⟩ := H
  obtain ⟨b254, i255, x257, hp256, hg258, H⟩ := H
  obtain ⟨hp259, H⟩ := H
  obtain ⟨b261, i262, p260, hp263, hv264, H⟩ := H
  obtain ⟨b265, i266, hp267, c268, hg284, c269, hg285, c270, hg286, c271, hg287, c272, hg288, c273, hg289, c274, hg290, c275, hg291, c276, hg292, c277, hg293, c278, hg294, c279, hg295, c280, hg296, c281, hg297, c282, hg298, c283, hg299, H⟩ := H
  refine ago_drawH (p := [0, 1, 2, 3, 4, 5, 6, 7, 8, 9, 10, 11]) (tl := [(12, [0, 1, 2, 3, 4, 5, 6, 7], []), (13, [4, 5, 6, 7], [14, 15, 16])]) (hv := [(0, p200), (1, p200), (2, p208), (3, Value.agg #[.int .i64 c216, .int .i64 c217, .int .i64 c218, .int .u64 c219, .int .i64 c220, .int .u64 c221, .int .u64 c222, c223, c224, .int .u64 c225, .int .u8 c226, .int .i64 c227, .int .i64 c228, c229, c230, c231]), (4, p200), (5, p200), (6, p249), (7, x257), (8, p200), (9, p200), (10, p260), (11, Value.agg #[.int .i64 c268, .int .i64 c269, .int .i64 c270, .int .u64 c271, .int .i64 c272, .int .u64 c273, .int .u64 c274, c275, c276, .int .u64 c277, .int .u8 c278, .int .i64 c279, .int .i64 c280, c281, c282, c283])]) E10_22 mixed R10_7_N R10_7_O rfl (pv_cons rfl (pv_cons rfl (pv_cons rfl (pv_cons rfl (pv_cons rfl (pv_cons rfl (pv_cons rfl (pv_cons rfl (pv_cons rfl (pv_cons rfl (pv_cons rfl (pv_cons rfl (pv_nil _)))))))))))))
    (ffc (d := 38) (v := p200) (hd_v rfl fun ρ hρ => ⟨rfl, opv_move rfl rfl ((hρ 12 (lmem rfl)).trans h12)⟩) rfl rfl
    (ffc (d := 39) (v := p200) (hd_v rfl fun ρ hρ => ⟨rfl, ov_nck rfl rfl ((hρ 38 (lmem rfl)).trans rfl) hp207⟩) rfl rfl
    (ffc (d := 40) (v := p208) (hd_v rfl fun ρ hρ => ⟨rfl, ov_fldA rfl rfl underlying76 rfl sz30 (by decide) ((hρ 39 (lmem rfl)).trans rfl) hp211 rfl hv212⟩) rfl rfl
    (ffc (d := 41) (v := .agg #[.int .i64 c216, .int .i64 c217, .int .i64 c218, .int .u64 c219, .int .i64 c220, .int .u64 c221, .int .u64 c222, c223, c224, .int .u64 c225, .int .u8 c226, .int .i64 c227, .int .i64 c228, c229, c230, c231]) (hd_v rfl fun ρ hρ => ⟨rfl, ov_ldN rfl underlying30 rfl sz30 rfl ((hρ 40 (lmem rfl)).trans rfl) hp215 (getN_cons hg232 (getN_cons hg233 (getN_cons hg234 (getN_cons hg235 (getN_cons hg236 (getN_cons hg237 (getN_cons hg238 (getN_cons hg239 (getN_cons hg240 (getN_cons hg241 (getN_cons hg242 (getN_cons hg243 (getN_cons hg244 (getN_cons hg245 (getN_cons hg246 (getN_cons hg247 getN_nil))))))))))))))))⟩) rfl rfl
    (ffc (d := 42) (v := p200) (hd_v rfl fun ρ hρ => ⟨rfl, opv_move rfl rfl ((hρ 12 (lmem rfl)).trans h12)⟩) rfl rfl
    (ffc (d := 43) (v := p200) (hd_v rfl fun ρ hρ => ⟨rfl, ov_nck rfl rfl ((hρ 42 (lmem rfl)).trans rfl) hp248⟩) rfl rfl
    (ffc (d := 44) (v := p249) (hd_v rfl fun ρ hρ => ⟨rfl, ov_fldA rfl rfl underlying76 rfl sz34 (by decide) ((hρ 43 (lmem rfl)).trans rfl) hp252 rfl hv253⟩) rfl rfl
    (ffc (d := 45) (v := x257) (hd_v rfl fun ρ hρ => ⟨rfl, ov_ldV rfl underlying34 rfl rfl ((hρ 44 (lmem rfl)).trans rfl) hp256 hg258⟩) rfl rfl
    (ffc (d := 46) (v := p200) (hd_v rfl fun ρ hρ => ⟨rfl, opv_move rfl rfl ((hρ 12 (lmem rfl)).trans h12)⟩) rfl rfl
    (ffc (d := 47) (v := p200) (hd_v rfl fun ρ hρ => ⟨rfl, ov_nck rfl rfl ((hρ 46 (lmem rfl)).trans rfl) hp259⟩) rfl rfl
    (ffc (d := 48) (v := p260) (hd_v rfl fun ρ hρ => ⟨rfl, ov_fldA rfl rfl underlying76 rfl sz30 (by decide) ((hρ 47 (lmem rfl)).trans rfl) hp263 rfl hv264⟩) rfl rfl
    (ffc (d := 49) (v := .agg #[.int .i64 c268, .int .i64 c269, .int .i64 c270, .int .u64 c271, .int .i64 c272, .int .u64 c273, .int .u64 c274, c275, c276, .int .u64 c277, .int .u8 c278, .int .i64 c279, .int .i64 c280, c281, c282, c283]) (hd_v rfl fun ρ hρ => ⟨rfl, ov_ldN rfl underlying30 rfl sz30 rfl ((hρ 48 (lmem rfl)).trans rfl) hp267 (getN_cons hg284 (getN_cons hg285 (getN_cons hg286 (getN_cons hg287 (getN_cons hg288 (getN_cons hg289 (getN_cons hg290 (getN_cons hg291 (getN_cons hg292 (getN_cons hg293 (getN_cons hg294 (getN_cons hg295 (getN_cons hg296 (getN_cons hg297 (getN_cons hg298 (getN_cons hg299 getN_nil))))))))))))))))⟩) rfl rfl
    ffn)))))))))))) ?_
  refine lt_call (dt := some 50) rfl rfl (fun ρ hρ => ⟨rfl, opc_of rfl rfl is22 (ma_cons ((hρ 49 (lmem rfl)).trans rfl) rfl)⟩) H (fun _ _ h _ => ⟨rfl, h⟩) fun r300 aw301 H => ?_
  obtain ⟨hg232, H⟩ := H
  obtain ⟨hg233, H⟩ := H
  obtain ⟨hg234, H⟩ := H
  obtain ⟨hg235, H⟩ := H
  obtain ⟨hg236, H⟩ := H
  obtain ⟨hg237, H⟩ := H
  obtain ⟨hg238, H⟩ := H
  obtain ⟨hg239, H⟩ := H
  obtain ⟨hg240, H⟩ := H
  obtain ⟨hg241, H⟩ := H
  obtain ⟨hg242, H⟩ := H
  obtain ⟨hg243, H⟩ := H
  obtain ⟨hg244, H⟩ := H
  obtain ⟨hg245, H⟩ := H
  obtain ⟨hg246, H⟩ := H
  obtain ⟨hg247, H⟩ := H
  obtain ⟨hg258, H⟩ := H
  replace hg258 := hg258 _ _ hp256
  refine lt_next (l := [0, 1, 2, 3, 4, 5, 6, 7]) (hv := []) rfl rfl (pv_nil _)
    (ffc (d := 38) (v := p200) (hd_v rfl fun ρ hρ => ⟨rfl, opv_move rfl rfl ((hρ 12 (lmem rfl)).trans h12)⟩) rfl rfl
    (ffc (d := 39) (v := p200) (hd_v rfl fun ρ hρ => ⟨rfl, ov_nck rfl rfl ((hρ 38 (lmem rfl)).trans rfl) hp207⟩) rfl rfl
    (ffc (d := 40) (v := p208) (hd_v rfl fun ρ hρ => ⟨rfl, ov_fldA rfl rfl underlying76 rfl sz30 (by decide) ((hρ 39 (lmem rfl)).trans rfl) hp211 rfl hv212⟩) rfl rfl
    (ffc (d := 41) (v := .agg #[.int .i64 c216, .int .i64 c217, .int .i64 c218, .int .u64 c219, .int .i64 c220, .int .u64 c221, .int .u64 c222, c223, c224, .int .u64 c225, .int .u8 c226, .int .i64 c227, .int .i64 c228, c229, c230, c231]) (hd_v rfl fun ρ hρ => ⟨rfl, ov_ldN rfl underlying30 rfl sz30 rfl ((hρ 40 (lmem rfl)).trans rfl) hp215 (getN_cons hg232 (getN_cons hg233 (getN_cons hg234 (getN_cons hg235 (getN_cons hg236 (getN_cons hg237 (getN_cons hg238 (getN_cons hg239 (getN_cons hg240 (getN_cons hg241 (getN_cons hg242 (getN_cons hg243 (getN_cons hg244 (getN_cons hg245 (getN_cons hg246 (getN_cons hg247 getN_nil))))))))))))))))⟩) rfl rfl
    (ffc (d := 42) (v := p200) (hd_v rfl fun ρ hρ => ⟨rfl, opv_move rfl rfl ((hρ 12 (lmem rfl)).trans h12)⟩) rfl rfl
    (ffc (d := 43) (v := p200) (hd_v rfl fun ρ hρ => ⟨rfl, ov_nck rfl rfl ((hρ 42 (lmem rfl)).trans rfl) hp248⟩) rfl rfl
    (ffc (d := 44) (v := p249) (hd_v rfl fun ρ hρ => ⟨rfl, ov_fldA rfl rfl underlying76 rfl sz34 (by decide) ((hρ 43 (lmem rfl)).trans rfl) hp252 rfl hv253⟩) rfl rfl
    (ffc (d := 45) (v := x257) (hd_v rfl fun ρ hρ => ⟨rfl, ov_ldV rfl underlying34 rfl rfl ((hρ 44 (lmem rfl)).trans rfl) hp256 hg258⟩) rfl rfl
    ffn)))))))) ?_
  obtain ⟨b303, i304, aw302, hp305, hw306, ho307, ha308, H⟩ := H
  refine lt_val (dt := none) (v := undef) rfl rfl (fun ρ hρ => ⟨rfl, ov_st rfl rfl rfl ((hρ 8 (lmem rfl)).trans h8) ((hρ 41 (lmem rfl)).trans rfl) rfl sz30 hp305 hw306 ho307 ha308⟩) ?_
  obtain ⟨hg258, H⟩ := H
  replace hg258 := hg258 _ _ hp256
  refine lt_next (l := [4, 5, 6, 7, 14, 15, 16]) (hv := [(14, x257), (15, Value.int .u64 r300), (16, Value.int .i64 0)]) rfl rfl (pv_cons rfl (pv_cons rfl (pv_cons rfl (pv_nil _))))
    (ffc (d := 42) (v := p200) (hd_v rfl fun ρ hρ => ⟨rfl, opv_move rfl rfl ((hρ 12 (lmem rfl)).trans h12)⟩) rfl rfl
    (ffc (d := 43) (v := p200) (hd_v rfl fun ρ hρ => ⟨rfl, ov_nck rfl rfl ((hρ 42 (lmem rfl)).trans rfl) hp248⟩) rfl rfl
    (ffc (d := 44) (v := p249) (hd_v rfl fun ρ hρ => ⟨rfl, ov_fldA rfl rfl underlying76 rfl sz34 (by decide) ((hρ 43 (lmem rfl)).trans rfl) hp252 rfl hv253⟩) rfl rfl
    (ffc (d := 45) (v := x257) (hd_v rfl fun ρ hρ => ⟨rfl, ov_ldV rfl underlying34 rfl rfl ((hρ 44 (lmem rfl)).trans rfl) hp256 hg258⟩) rfl rfl
    (ffc (d := 9) (v := x257) (hd_v rfl fun ρ hρ => ⟨rfl, opv_assign rfl rfl ((hρ 45 (lmem rfl)).trans rfl)⟩) rfl rfl
    (ffc (d := 10) (v := .int .u64 r300) (hd_v rfl fun ρ hρ => ⟨rfl, opv_assign rfl rfl ((hρ 50 (lmem rfl)).trans rfl)⟩) rfl rfl
    (ffc (d := 11) (v := .int .i64 0) (hd_v rfl fun ρ hρ => ⟨rfl, opv_assign rfl rfl rfl⟩) rfl rfl
    ffn))))))) ?_
  refine lt_end ?_
  obtain ⟨b309, i310, hp311, c312, hg328, c313, hg329, c314, hg330, c315, hg331, c316, hg332, c317, hg333, c318, hg334, c319, hg335, c320, hg336, c321, hg337, c322, hg338, c323, hg339, c324, hg340, c325, hg341, c326, hg342, c327, hg343, H⟩ := H
  exact ago_retE E10_23 (r := (c312, c313, c314, c315, c316, c317, c318, c319, c320, c321, c322, c323, c324, c325, c326, c327, x257, r300, 0)) (ares_4 rfl (oneN h8 hp311 underlying30 rfl sz30 (getN_cons hg328 (getN_cons hg329 (getN_cons hg330 (getN_cons hg331 (getN_cons hg332 (getN_cons hg333 (getN_cons hg334 (getN_cons hg335 (getN_cons hg336 (getN_cons hg337 (getN_cons hg338 (getN_cons hg339 (getN_cons hg340 (getN_cons hg341 (getN_cons hg342 (getN_cons hg343 getN_nil))))))))))))))))) (oneT rfl) (oneT rfl) (oneT rfl)) rfl H
theorem S10_0_ok (Q : (Int × Int × Int × Int × Int × Int × Int × Value × Value × Int × Int × Int × Int × Value × Value × Value × Value × Int × Int) → AW → Prop) (E : List PanicEntry → AW → Prop)  (ρ : Env) (s_0_0 : Int) (s_0_1 : Int) (s_0_2 : Int) (s_0_3 : Int) (s_0_4 : Int) (s_0_5 : Int) (s_0_6 : Int) (s_0_7 : Value) (s_0_8 : Value) (s_0_9 : Int) (s_0_10 : Int) (s_0_11 : Int) (s_0_12 : Int) (s_0_13 : Value) (s_0_14 : Value) (s_0_15 : Value) (session_1 : Int) (number_2 : Int) (cell_3 : Value) (aw : AW) (h0 : ρ 0 = .agg #[.int .i64 s_0_0, .int .i64 s_0_1, .int .i64 s_0_2, .int .u64 s_0_3, .int .i64 s_0_4, .int .u64 s_0_5, .int .u64 s_0_6, s_0_7, s_0_8, .int .u64 s_0_9, .int .u8 s_0_10, .int .i64 s_0_11, .int .i64 s_0_12, s_0_13, s_0_14, s_0_15]) (h1 : ρ 1 = .int .u64 session_1) (h2 : ρ 2 = .int .u64 number_2) (h3 : ρ 3 = cell_3) (H : S10_0 Q E  s_0_0 s_0_1 s_0_2 s_0_3 s_0_4 s_0_5 s_0_6 s_0_7 s_0_8 s_0_9 s_0_10 s_0_11 s_0_12 s_0_13 s_0_14 s_0_15 session_1 number_2 cell_3 aw) :
    AGo prog 51 [.code C10_0] ρ [] aw (RR prog f10 51 sh10 Q E) := by
  unfold S10_0 at H
  refine ago_seqE E10_0 ?_
  refine ago_regE E10_1 (l := [0, 1, 2, 3, 4]) rfl ?_
  obtain ⟨p344, aw345, hp346, ha347, H⟩ := H
  refine lk (dt := some 4) R10_0_N rfl rfl rfl (ov_box rfl rfl h0 rfl hp346 ha347) ?_
  obtain ⟨p348, aw349, hp350, ha351, H⟩ := H
  refine lk (dt := some 8) R10_0_N rfl rfl rfl (ov_alloc rfl z30 rfl rfl hp350 ha351) ?_
  refine lk (dt := some 9) R10_0_N rfl rfl rfl (opv_assign rfl rfl rfl) ?_
  refine lk (dt := some 10) R10_0_N rfl rfl rfl (opv_assign rfl rfl rfl) ?_
  refine lk (dt := some 11) R10_0_N rfl rfl rfl (opv_assign rfl rfl rfl) ?_
  refine aops_nil ?_
  refine ago_seqE E10_2 ?_
  refine ago_blockE E10_3 ?_
  refine ago_seqE E10_4 ?_
  refine ago_regE E10_5 (l := [0, 1, 2, 3, 4, 5, 6, 7, 8]) rfl ?_
  obtain ⟨b353, i354, p352, hp355, hv356, H⟩ := H
  refine lk (dt := some 14) R10_1_N rfl rfl rfl (ov_fldA rfl rfl underlying30 rfl sz5 (by decide) rfl hp355 rfl hv356) ?_
  obtain ⟨b357, i358, x360, hp359, hg361, H⟩ := H
  refine lk (dt := some 15) R10_1_N rfl rfl rfl (ov_ldI rfl underlying5 rfl rfl hp359 hg361) ?_
  refine lk (dt := some 16) R10_1_N rfl rfl rfl (opv_neI rfl rfl rfl rfl rfl) ?_
  refine lk (dt := some 17) R10_1_N rfl rfl rfl (opv_move rfl rfl rfl) ?_
  rcases Bool.eq_false_or_eq_true (!decide (x360 = 2)) with hb362 | hb362
  · replace H := cnd_t H hb362
    refine lk_skip (dt := some 18) R10_1_N rfl rfl ⟨_, rfl, .inl ⟨_, rfl, gq hb362 rfl⟩⟩ ?_
    refine lk_skip (dt := some 19) R10_1_N rfl rfl ⟨_, rfl, .inl ⟨_, rfl, gq hb362 rfl⟩⟩ ?_
    refine lk_skip (dt := some 20) R10_1_N rfl rfl ⟨_, rfl, .inl ⟨_, rfl, gq hb362 rfl⟩⟩ ?_
    refine lk (dt := some 21) R10_1_N rfl rfl rfl (ov_pickT rfl rfl rfl rfl rfl hb362 rfl) ?_
    refine lk (dt := some 13) R10_1_N rfl rfl rfl (opv_assign rfl rfl rfl) ?_
    refine aops_nil ?_
    exact S10_1_ok Q E  _ session_1 number_2 cell_3 p344 p348 true aw349 h1 h2 h3 rfl rfl rfl H
  · replace H := cnd_f H hb362
    obtain ⟨b364, i365, p363, hp366, hv367, H⟩ := H
    refine lk (dt := some 18) R10_1_N rfl rfl ⟨_, rfl, .inl ⟨_, rfl, gq hb362 rfl⟩⟩ (ov_fldA rfl rfl underlying30 rfl sz3 (by decide) rfl hp366 rfl hv367) ?_
    obtain ⟨b368, i369, x371, hp370, hg372, H⟩ := H
    refine lk (dt := some 19) R10_1_N rfl rfl ⟨_, rfl, .inl ⟨_, rfl, gq hb362 rfl⟩⟩ (ov_ldI rfl underlying3 rfl rfl hp370 hg372) ?_
    refine lk (dt := some 20) R10_1_N rfl rfl ⟨_, rfl, .inl ⟨_, rfl, gq hb362 rfl⟩⟩ (opv_eqI rfl rfl rfl rfl rfl) ?_
    refine lk (dt := some 21) R10_1_N rfl rfl rfl (ov_pickF rfl rfl rfl rfl rfl hb362 rfl) ?_
    refine lk (dt := some 13) R10_1_N rfl rfl rfl (opv_assign rfl rfl rfl) ?_
    refine aops_nil ?_
    exact S10_1_ok Q E  _ session_1 number_2 cell_3 p344 p348 (decide (x371 = 0)) aw349 h1 h2 h3 rfl rfl rfl H
theorem F10_ok {Q : (Int × Int × Int × Int × Int × Int × Int × Value × Value × Int × Int × Int × Int × Value × Value × Value × Value × Int × Int) → AW → Prop} {E : List PanicEntry → AW → Prop} (s_0_0 : Int) (s_0_1 : Int) (s_0_2 : Int) (s_0_3 : Int) (s_0_4 : Int) (s_0_5 : Int) (s_0_6 : Int) (s_0_7 : Value) (s_0_8 : Value) (s_0_9 : Int) (s_0_10 : Int) (s_0_11 : Int) (s_0_12 : Int) (s_0_13 : Value) (s_0_14 : Value) (s_0_15 : Value) (session_1 : Int) (number_2 : Int) (cell_3 : Value) (aw : AW) (H : S10_0 Q E s_0_0 s_0_1 s_0_2 s_0_3 s_0_4 s_0_5 s_0_6 s_0_7 s_0_8 s_0_9 s_0_10 s_0_11 s_0_12 s_0_13 s_0_14 s_0_15 session_1 number_2 cell_3 aw) : CallP prog 10 [.agg #[.int .i64 s_0_0, .int .i64 s_0_1, .int .i64 s_0_2, .int .u64 s_0_3, .int .i64 s_0_4, .int .u64 s_0_5, .int .u64 s_0_6, s_0_7, s_0_8, .int .u64 s_0_9, .int .u8 s_0_10, .int .i64 s_0_11, .int .i64 s_0_12, s_0_13, s_0_14, s_0_15], .int .u64 session_1, .int .u64 number_2, cell_3] aw sh10 Q E :=
  callP_of func10 C10_is rfl (Nat.le_of_ble_eq_true rfl) (S10_0_ok Q E _ s_0_0 s_0_1 s_0_2 s_0_3 s_0_4 s_0_5 s_0_6 s_0_7 s_0_8 s_0_9 s_0_10 s_0_11 s_0_12 s_0_13 s_0_14 s_0_15 session_1 number_2 cell_3 aw rfl rfl rfl rfl H)
end
end Go.Proofs.Try
