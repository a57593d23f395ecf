/- Printed by a program of the prover: what the Go functions of this seat do, in steps. -/
import Derived.Test.YtfdfakapkhflcaaBaF
import Derived.Test.YtfdfakapkhflcaaBaB2
set_option linter.unusedSectionVars false
set_option linter.unusedSimpArgs false
set_option linter.unusedVariables false
namespace Go.Proofs.Try
open Go Go.Am Go.RowKit
set_option maxHeartbeats 4000000
set_option maxRecDepth 100000
noncomputable section
variable [SymE]
def C12_0 : Code := bodyOf f12
theorem C12_is : f12.body = some C12_0 := by kernel_rfl
def C12_1 : Code := cl C12_0
def R12_0 : Array Oper := regOps C12_1
def C12_2 : Code := cr C12_0
def C12_3 : Code := cl C12_2
def R12_1 : Array Oper := regOps C12_3
def C12_4 : Code := cr C12_2
def C12_5 : Code := cl C12_4
def C12_6 : Code := cl C12_5
def R12_2 : Array Oper := regOps C12_6
def C12_7 : Code := cr C12_5
def C12_8 : Code := cl C12_7
def C12_9 : Code := cl C12_8
def R12_3 : Array Oper := regOps C12_9
def C12_10 : Code := cr C12_8
def C12_11 : Code := cr C12_7
def C12_12 : Code := cr C12_4
def C12_13 : Code := cl C12_12
def R12_4 : Array Oper := regOps C12_13
def C12_14 : Code := cr C12_12
def C12_15 : Code := cl C12_14
def R12_5 : Array Oper := regOps C12_15
def C12_16 : Code := cr C12_14
def C12_17 : Code := cl C12_16
def R12_6 : Array Oper := regOps C12_17
def C12_18 : Code := cr C12_16
def C12_19 : Code := cl C12_18
def R12_7 : Array Oper := regOps C12_19
def C12_20 : Code := cr C12_18
def C12_21 : Code := cl C12_20
def R12_8 : Array Oper := regOps C12_21
def C12_22 : Code := cr C12_20
def C12_23 : Code := cl C12_22
def R12_9 : Array Oper := regOps C12_23
def C12_24 : Code := cr C12_22
def C12_25 : Code := cl C12_24
def R12_10 : Array Oper := regOps C12_25
def C12_26 : Code := cr C12_24
def C12_27 : Code := cl C12_26
def R12_11 : Array Oper := regOps C12_27
def C12_28 : Code := cr C12_26
def C12_29 : Code := cl C12_28
def R12_12 : Array Oper := regOps C12_29
def C12_30 : Code := cr C12_28
def C12_31 : Code := cl C12_30
def R12_13 : Array Oper := regOps C12_31
def C12_32 : Code := cr C12_30
def C12_33 : Code := cl C12_32
def C12_34 : Code := cl C12_33
def R12_14 : Array Oper := regOps C12_34
def C12_35 : Code := cr C12_33
def C12_36 : Code := cl C12_35
def C12_37 : Code := cl C12_36
def C12_38 : Code := cl C12_37
def C12_39 : Code := cl C12_38
def R12_15 : Array Oper := regOps C12_39
def C12_40 : Code := cr C12_38
def C12_41 : Code := cl C12_40
def C12_42 : Code := cr C12_40
def C12_43 : Code := cr C12_37
def C12_44 : Code := cl C12_43
def C12_45 : Code := cl C12_44
def C12_46 : Code := cl C12_45
def R12_17 : Array Oper := regOps C12_46
def C12_47 : Code := cr C12_45
def C12_48 : Code := cl C12_47
def R12_18 : Array Oper := regOps C12_48
def C12_49 : Code := cr C12_47
def C12_50 : Code := cl C12_49
def R12_19 : Array Oper := regOps C12_50
def C12_51 : Code := cr C12_49
def C12_52 : Code := cl C12_51
def R12_20 : Array Oper := regOps C12_52
def C12_53 : Code := cr C12_51
def R12_21 : Array Oper := regOps C12_53
def C12_54 : Code := cr C12_43
def R12_16 : Array Oper := regOps C12_54
def C12_55 : Code := cr C12_32
def C12_56 : Code := cl C12_55
def R12_22 : Array Oper := regOps C12_56
def C12_57 : Code := cr C12_55
def C12_58 : Code := cl C12_57
def C12_59 : Code := cl C12_58
def R12_23 : Array Oper := regOps C12_59
def C12_60 : Code := cr C12_58
def C12_61 : Code := cl C12_60
def C12_62 : Code := cl C12_61
def R12_24 : Array Oper := regOps C12_62
def C12_63 : Code := cr C12_61
def C12_64 : Code := cr C12_60
def C12_65 : Code := cr C12_57
def C12_66 : Code := cl C12_65
def R12_25 : Array Oper := regOps C12_66
def C12_67 : Code := cr C12_65
theorem R12_0_N : dstsOk 93 R12_0 = true := by decide +kernel
theorem E12_1 : C12_1 = .region 0 R12_0 false := rfl
theorem R12_1_N : dstsOk 93 R12_1 = true := by decide +kernel
theorem E12_3 : C12_3 = .region 1 R12_1 false := rfl
theorem R12_2_N : dstsOk 93 R12_2 = true := by decide +kernel
theorem E12_6 : C12_6 = .region 2 R12_2 false := rfl
theorem R12_3_N : dstsOk 93 R12_3 = true := by decide +kernel
theorem E12_9 : C12_9 = .region 3 R12_3 false := rfl
theorem E12_10 : C12_10 = .ret := rfl
theorem E12_8 : C12_8 = .seq C12_9 C12_10 := rfl
theorem E12_11 : C12_11 = .skip := rfl
theorem E12_7 : C12_7 = .cond (.tmp 17) C12_8 C12_11 := rfl
theorem E12_5 : C12_5 = .seq C12_6 C12_7 := rfl
theorem R12_4_N : dstsOk 93 R12_4 = true := by decide +kernel
theorem E12_13 : C12_13 = .region 4 R12_4 false := rfl
theorem R12_5_N : dstsOk 93 R12_5 = true := by decide +kernel
theorem E12_15 : C12_15 = .region 5 R12_5 false := rfl
theorem R12_6_N : dstsOk 93 R12_6 = true := by decide +kernel
theorem E12_17 : C12_17 = .region 6 R12_6 false := rfl
theorem R12_7_N : dstsOk 93 R12_7 = true := by decide +kernel
theorem E12_19 : C12_19 = .region 7 R12_7 false := rfl
theorem R12_8_N : dstsOk 93 R12_8 = true := by decide +kernel
theorem E12_21 : C12_21 = .region 8 R12_8 false := rfl
theorem R12_9_N : dstsOk 93 R12_9 = true := by decide +kernel
theorem E12_23 : C12_23 = .region 9 R12_9 false := rfl
theorem R12_10_N : dstsOk 93 R12_10 = true := by decide +kernel
theorem E12_25 : C12_25 = .region 10 R12_10 false := rfl
theorem R12_11_N : dstsOk 93 R12_11 = true := by decide +kernel
theorem E12_27 : C12_27 = .region 11 R12_11 false := rfl
theorem R12_12_N : dstsOk 93 R12_12 = true := by decide +kernel
theorem E12_29 : C12_29 = .region 12 R12_12 false := rfl
theorem R12_13_N : dstsOk 93 R12_13 = true := by decide +kernel
theorem E12_31 : C12_31 = .region 13 R12_13 false := rfl
theorem R12_14_N : dstsOk 93 R12_14 = true := by decide +kernel
theorem E12_34 : C12_34 = .region 14 R12_14 false := rfl
theorem R12_15_N : dstsOk 93 R12_15 = true := by decide +kernel
theorem E12_39 : C12_39 = .region 15 R12_15 false := rfl
theorem E12_41 : C12_41 = .skip := rfl
theorem E12_42 : C12_42 = .exit 0 := rfl
theorem E12_40 : C12_40 = .cond (.tmp 60) C12_41 C12_42 := rfl
theorem E12_38 : C12_38 = .seq C12_39 C12_40 := rfl
theorem R12_17_N : dstsOk 93 R12_17 = true := by decide +kernel
theorem E12_46 : C12_46 = .region 17 R12_17 false := rfl
theorem R12_18_N : dstsOk 93 R12_18 = true := by decide +kernel
theorem E12_48 : C12_48 = .region 18 R12_18 false := rfl
theorem R12_19_N : dstsOk 93 R12_19 = true := by decide +kernel
theorem E12_50 : C12_50 = .region 19 R12_19 false := rfl
theorem R12_20_N : dstsOk 93 R12_20 = true := by decide +kernel
theorem E12_52 : C12_52 = .region 20 R12_20 false := rfl
theorem R12_21_N : dstsOk 93 R12_21 = true := by decide +kernel
theorem E12_53 : C12_53 = .region 21 R12_21 false := rfl
theorem E12_51 : C12_51 = .seq C12_52 C12_53 := rfl
theorem E12_49 : C12_49 = .seq C12_50 C12_51 := rfl
theorem E12_47 : C12_47 = .seq C12_48 C12_49 := rfl
theorem E12_45 : C12_45 = .seq C12_46 C12_47 := rfl
theorem E12_44 : C12_44 = .block 1 C12_45 := rfl
theorem R12_16_N : dstsOk 93 R12_16 = true := by decide +kernel
theorem E12_54 : C12_54 = .region 16 R12_16 false := rfl
theorem E12_43 : C12_43 = .seq C12_44 C12_54 := rfl
theorem E12_37 : C12_37 = .seq C12_38 C12_43 := rfl
theorem E12_36 : C12_36 = .loop C12_37 := rfl
theorem E12_35 : C12_35 = .block 0 C12_36 := rfl
theorem E12_33 : C12_33 = .seq C12_34 C12_35 := rfl
theorem R12_22_N : dstsOk 93 R12_22 = true := by decide +kernel
theorem E12_56 : C12_56 = .region 22 R12_22 false := rfl
theorem R12_23_N : dstsOk 93 R12_23 = true := by decide +kernel
theorem E12_59 : C12_59 = .region 23 R12_23 false := rfl
theorem R12_24_N : dstsOk 93 R12_24 = true := by decide +kernel
theorem E12_62 : C12_62 = .region 24 R12_24 false := rfl
theorem E12_63 : C12_63 = .ret := rfl
theorem E12_61 : C12_61 = .seq C12_62 C12_63 := rfl
theorem E12_64 : C12_64 = .skip := rfl
theorem E12_60 : C12_60 = .cond (.tmp 90) C12_61 C12_64 := rfl
theorem E12_58 : C12_58 = .seq C12_59 C12_60 := rfl
theorem R12_25_N : dstsOk 93 R12_25 = true := by decide +kernel
theorem E12_66 : C12_66 = .region 25 R12_25 false := rfl
theorem E12_67 : C12_67 = .ret := rfl
theorem E12_65 : C12_65 = .seq C12_66 C12_67 := rfl
theorem E12_57 : C12_57 = .seq C12_58 C12_65 := rfl
theorem E12_55 : C12_55 = .seq C12_56 C12_57 := rfl
theorem E12_32 : C12_32 = .seq C12_33 C12_55 := rfl
theorem E12_30 : C12_30 = .seq C12_31 C12_32 := rfl
theorem E12_28 : C12_28 = .seq C12_29 C12_30 := rfl
theorem E12_26 : C12_26 = .seq C12_27 C12_28 := rfl
theorem E12_24 : C12_24 = .seq C12_25 C12_26 := rfl
theorem E12_22 : C12_22 = .seq C12_23 C12_24 := rfl
theorem E12_20 : C12_20 = .seq C12_21 C12_22 := rfl
theorem E12_18 : C12_18 = .seq C12_19 C12_20 := rfl
theorem E12_16 : C12_16 = .seq C12_17 C12_18 := rfl
theorem E12_14 : C12_14 = .seq C12_15 C12_16 := rfl
theorem E12_12 : C12_12 = .seq C12_13 C12_14 := rfl
theorem E12_4 : C12_4 = .seq C12_5 C12_12 := rfl
theorem E12_2 : C12_2 = .seq C12_3 C12_4 := rfl
theorem E12_0 : C12_0 = .seq C12_1 C12_2 := rfl
def S12_2 (Q : (Int × Int × Int × Int × Int × Int × Int × Bool × Value × Value × Int) → AW → Prop) (E : List PanicEntry → AW → Prop) (nx1 : Value → Value → Value → Value → Int → Int → AW → Prop) (t_2 : Value) (p_4 : Value) (r_6 : Value) (m_7 : Value) (n_8 : Int) (i_9 : Int) (t_60 : Bool) (aw : AW) : Prop :=
  cnd t_60 (CallP prog 43 [r_6] aw sh43 (fun r2 aw3 =>
  alc aw3 [.int .u64 0, .int .u64 0, .int .u64 0, (.slice none 0 0)] 40 0 fun p4 aw5 =>
  st aw5 p4 [.int .u64 r2, .int .u64 0, .int .u64 0, (.slice none 0 0)] fun aw8 =>
  CallP prog 43 [r_6] aw8 sh43 (fun r15 aw16 =>
  fldA p4 1 fun p17 =>
  st aw16 p17 [.int .u64 r15] fun aw22 =>
  CallP prog 43 [r_6] aw22 sh43 (fun r29 aw30 =>
  fldA p4 2 fun p31 =>
  st aw30 p31 [.int .u64 r29] fun aw36 =>
  CallP prog 44 [r_6, .int .i64 4000] aw36 sh44 (fun r43 aw44 =>
  fldA p4 3 fun p45 =>
  st aw44 p45 [r43] fun aw50 =>
  fldA m_7 8 fun p57 =>
  ldV aw50 p57 fun x65 =>
  ptr p4 fun b67 i68 =>
  gI .u64 aw50 b67 i68 fun c70 =>
  gI .u64 aw50 b67 (i68 + 1) fun c71 =>
  gI .u64 aw50 b67 (i68 + 2) fun c72 =>
  gV aw50 b67 (i68 + 3) fun c73 =>
  alcS aw50 [.int .u64 c70, .int .u64 c71, .int .u64 c72, c73] 40 4 1 fun p78 aw79 =>
  app aw79 40 4 48 x65 p78 fun v82 aw83 =>
  fldA m_7 8 fun p85 =>
  st aw83 p85 [v82] fun aw90 =>
  nx1 t_2 p_4 r_6 m_7 n_8 (IntKind.i64.wrap (i_9 + 1)) aw90) E) E) E) E) (CallP prog 44 [r_6, .int .i64 1048576] aw sh44 (fun r97 aw98 =>
  fldA m_7 9 fun p99 =>
  st aw98 p99 [r97] fun aw104 =>
  nck r_6 (fldA r_6 1 fun p112 =>
  ldI .i64 aw104 p112 fun x120 =>
  slen p_4 fun n122 =>
  cnd (!decide (x120 = n122)) (st aw104 t_2 [.int .u8 0, .int .i64 0, .int .i64 0, .int .u64 0, .int .u64 0, .int .u64 0, .int .u64 0, .bool false, (.slice none 0 0), (.slice none 0 0)] fun aw129 =>
  ptr t_2 fun b136 i137 => gI .u8 aw129 b136 i137 fun c139 => gI .i64 aw129 b136 (i137 + 1) fun c140 => gI .i64 aw129 b136 (i137 + 2) fun c141 => gI .u64 aw129 b136 (i137 + 3) fun c142 => gI .u64 aw129 b136 (i137 + 4) fun c143 => gI .u64 aw129 b136 (i137 + 5) fun c144 => gI .u64 aw129 b136 (i137 + 6) fun c145 => gB aw129 b136 (i137 + 7) fun c146 => gV aw129 b136 (i137 + 8) fun c147 => gV aw129 b136 (i137 + 9) fun c148 => Q (c139, c140, c141, c142, c143, c144, c145, c146, c147, c148, 3) aw129) (ptr m_7 fun b159 i160 =>
  gI .u8 aw104 b159 i160 fun c162 =>
  gI .i64 aw104 b159 (i160 + 1) fun c163 =>
  gI .i64 aw104 b159 (i160 + 2) fun c164 =>
  gI .u64 aw104 b159 (i160 + 3) fun c165 =>
  gI .u64 aw104 b159 (i160 + 4) fun c166 =>
  gI .u64 aw104 b159 (i160 + 5) fun c167 =>
  gI .u64 aw104 b159 (i160 + 6) fun c168 =>
  gB aw104 b159 (i160 + 7) fun c169 =>
  gV aw104 b159 (i160 + 8) fun c170 =>
  gV aw104 b159 (i160 + 9) fun c171 =>
  st aw104 t_2 [.int .u8 c162, .int .i64 c163, .int .i64 c164, .int .u64 c165, .int .u64 c166, .int .u64 c167, .int .u64 c168, .bool c169, c170, c171] fun aw182 =>
  ptr t_2 fun b189 i190 => gI .u8 aw182 b189 i190 fun c192 => gI .i64 aw182 b189 (i190 + 1) fun c193 => gI .i64 aw182 b189 (i190 + 2) fun c194 => gI .u64 aw182 b189 (i190 + 3) fun c195 => gI .u64 aw182 b189 (i190 + 4) fun c196 => gI .u64 aw182 b189 (i190 + 5) fun c197 => gI .u64 aw182 b189 (i190 + 6) fun c198 => gB aw182 b189 (i190 + 7) fun c199 => gV aw182 b189 (i190 + 8) fun c200 => gV aw182 b189 (i190 + 9) fun c201 => Q (c192, c193, c194, c195, c196, c197, c198, c199, c200, c201, 0) aw182))) E)
def S12_1s (Q : (Int × Int × Int × Int × Int × Int × Int × Bool × Value × Value × Int) → AW → Prop) (E : List PanicEntry → AW → Prop)  (nx1 : Value → Value → Value → Value → Int → Int → AW → Prop) (t_2 : Value) (p_4 : Value) (r_6 : Value) (m_7 : Value) (n_8 : Int) (i_9 : Int) (aw : AW) : Prop :=
  cnd (decide (i_9 < n_8)) (nck r_6 (fldA r_6 1 fun p214 =>
  ldI .i64 aw p214 fun x222 =>
  S12_2 Q E nx1 t_2 p_4 r_6 m_7 n_8 i_9 (decide (0 ≤ x222)) aw)) (S12_2 Q E nx1 t_2 p_4 r_6 m_7 n_8 i_9 false aw)
def S12_1 (Q : (Int × Int × Int × Int × Int × Int × Int × Bool × Value × Value × Int) → AW → Prop) (E : List PanicEntry → AW → Prop)  : Nat → Value → Value → Value → Value → Int → Int → AW → Prop
  | 0 => fun _ _ _ _ _ _ _ => False
  | n + 1 => S12_1s Q E  (S12_1 Q E  n)
def S12_0 (Q : (Int × Int × Int × Int × Int × Int × Int × Bool × Value × Value × Int) → AW → Prop) (E : List PanicEntry → AW → Prop)  (b_0 : Value) (aw : AW) : Prop :=
  alc aw [.int .u8 0, .int .i64 0, .int .i64 0, .int .u64 0, .int .u64 0, .int .u64 0, .int .u64 0, .bool false, (.slice none 0 0), (.slice none 0 0)] 46 0 fun p224 aw225 =>
  CallP prog 40 [b_0] aw225 sh40 (fun r228 aw229 =>
  cnd (!decide (r228.2 = 0)) (st aw229 p224 [.int .u8 0, .int .i64 0, .int .i64 0, .int .u64 0, .int .u64 0, .int .u64 0, .int .u64 0, .bool false, (.slice none 0 0), (.slice none 0 0)] fun aw231 =>
  ptr p224 fun b238 i239 => gI .u8 aw231 b238 i239 fun c241 => gI .i64 aw231 b238 (i239 + 1) fun c242 => gI .i64 aw231 b238 (i239 + 2) fun c243 => gI .u64 aw231 b238 (i239 + 3) fun c244 => gI .u64 aw231 b238 (i239 + 4) fun c245 => gI .u64 aw231 b238 (i239 + 5) fun c246 => gI .u64 aw231 b238 (i239 + 6) fun c247 => gB aw231 b238 (i239 + 7) fun c248 => gV aw231 b238 (i239 + 8) fun c249 => gV aw231 b238 (i239 + 9) fun c250 => Q (c241, c242, c243, c244, c245, c246, c247, c248, c249, c250, r228.2) aw231) (one r228.1 = true ∧ alc aw229 [r228.1, .int .i64 0] 94 0 fun p262 aw263 =>
  CallP prog 41 [p262, .int .i64 255] aw263 sh41 (fun r266 aw267 =>
  alc aw267 [.int .u8 0, .int .i64 0, .int .i64 0, .int .u64 0, .int .u64 0, .int .u64 0, .int .u64 0, .bool false, (.slice none 0 0), (.slice none 0 0)] 46 0 fun p268 aw269 =>
  st aw269 p268 [.int .u8 (IntKind.u8.wrap r266), .int .i64 0, .int .i64 0, .int .u64 0, .int .u64 0, .int .u64 0, .int .u64 0, .bool false, (.slice none 0 0), (.slice none 0 0)] fun aw272 =>
  CallP prog 42 [p262] aw272 sh42 (fun r279 aw280 =>
  fldA p268 1 fun p281 =>
  st aw280 p281 [.int .i64 r279] fun aw286 =>
  CallP prog 42 [p262] aw286 sh42 (fun r293 aw294 =>
  fldA p268 2 fun p295 =>
  st aw294 p295 [.int .i64 r293] fun aw300 =>
  CallP prog 43 [p262] aw300 sh43 (fun r307 aw308 =>
  fldA p268 3 fun p309 =>
  st aw308 p309 [.int .u64 r307] fun aw314 =>
  CallP prog 43 [p262] aw314 sh43 (fun r321 aw322 =>
  fldA p268 4 fun p323 =>
  st aw322 p323 [.int .u64 r321] fun aw328 =>
  CallP prog 43 [p262] aw328 sh43 (fun r335 aw336 =>
  fldA p268 5 fun p337 =>
  st aw336 p337 [.int .u64 r335] fun aw342 =>
  CallP prog 43 [p262] aw342 sh43 (fun r349 aw350 =>
  fldA p268 6 fun p351 =>
  st aw350 p351 [.int .u64 r349] fun aw356 =>
  CallP prog 41 [p262, .int .i64 1] aw356 sh41 (fun r363 aw364 =>
  fldA p268 7 fun p365 =>
  st aw364 p365 [.bool (decide (r363 = 1))] fun aw370 =>
  CallP prog 41 [p262, .int .i64 65536] aw370 sh41 (fun r377 aw378 =>
  ∃ n, S12_1 Q E  n p224 r228.1 p262 p268 r377 0 aw378) E) E) E) E) E) E) E) E) E)) E
theorem S12_2_ok (Q : (Int × Int × Int × Int × Int × Int × Int × Bool × Value × Value × Int) → AW → Prop) (E : List PanicEntry → AW → Prop) (nx1 : Value → Value → Value → Value → Int → Int → AW → Prop) (L1 : ∀ (ρ : Env) (t_2 : Value) (p_4 : Value) (r_6 : Value) (m_7 : Value) (n_8 : Int) (i_9 : Int) (aw : AW) (h2 : ρ 2 = t_2) (h4 : ρ 4 = p_4) (h6 : ρ 6 = r_6) (h7 : ρ 7 = m_7) (h8 : ρ 8 = .int .i64 n_8) (h9 : ρ 9 = .int .i64 i_9), nx1 t_2 p_4 r_6 m_7 n_8 i_9 aw → AGo prog 93 [.code C12_37, .inLoop C12_37, .inBlock 0, .code C12_55] ρ [] aw (RR prog f12 93 sh12 Q E)) (ρ : Env) (t_2 : Value) (p_4 : Value) (r_6 : Value) (m_7 : Value) (n_8 : Int) (i_9 : Int) (t_60 : Bool) (aw : AW) (h2 : ρ 2 = t_2) (h4 : ρ 4 = p_4) (h6 : ρ 6 = r_6) (h7 : ρ 7 = m_7) (h8 : ρ 8 = .int .i64 n_8) (h9 : ρ 9 = .int .i64 i_9) (h60 : ρ 60 = .bool t_60) (H : S12_2 Q E nx1 t_2 p_4 r_6 m_7 n_8 i_9 t_60 aw) :
    AGo prog 93 [.code C12_40, .code C12_43, .inLoop C12_37, .inBlock 0, .code C12_55] ρ [] aw (RR prog f12 93 sh12 Q E) := by
  unfold S12_2 at H
  refine ago_condE  E12_40 rfl h60 (fun hb1 => ?_) (fun hb1 => ?_)
  · replace H := cnd_t H hb1
    refine ago_skipE E12_41 ?_
    refine ago_seqE E12_43 ?_
    refine ago_blockE E12_44 ?_
    refine ago_seqE E12_45 ?_
    refine ago_regE E12_46 (l := [0, 1, 2, 3, 4]) rfl ?_
    refine lk (dt := some 63) R12_17_N rfl rfl rfl (opv_move rfl rfl h6) ?_
    refine lk_call (dt := some 64) R12_17_N rfl rfl rfl (opc_of rfl rfl is43 (ma_cons rfl rfl)) H (fun _ _ h => ⟨rfl, h⟩) fun r2 aw3 H => ?_
    refine lk (dt := some 65) R12_17_N rfl rfl rfl (ov_bld (r := [.int .u64 r2, .int .u64 0, .int .u64 0, (.slice none 0 0)]) rfl rfl bo40 (mp_cons rfl rfl) (fillP rfl rfl rfl rfl (fillN rfl))) ?_
    obtain ⟨p4, aw5, hp6, ha7, H⟩ := H
    refine lk (dt := some 10) R12_17_N rfl rfl rfl (ov_alloc rfl z40 rfl rfl hp6 ha7) ?_
    obtain ⟨b9, i10, aw8, hp11, hw12, ho13, ha14, H⟩ := H
    refine lk (dt := none) R12_17_N rfl rfl rfl (ov_st rfl rfl rfl rfl rfl rfl sz40 hp11 hw12 ho13 ha14) ?_
    refine aops_nil ?_
    refine ago_seqE E12_47 ?_
    refine ago_regE E12_48 (l := [0, 1, 2, 3]) rfl ?_
    refine lk (dt := some 66) R12_18_N rfl rfl rfl (opv_move rfl rfl h6) ?_
    refine lk_call (dt := some 67) R12_18_N rfl rfl rfl (opc_of rfl rfl is43 (ma_cons rfl rfl)) H (fun _ _ h => ⟨rfl, h⟩) fun r15 aw16 H => ?_
    obtain ⟨b18, i19, p17, hp20, hv21, H⟩ := H
    refine lk (dt := some 68) R12_18_N rfl rfl rfl (ov_fldA rfl rfl underlying40 rfl sz24 (by decide) rfl hp20 rfl hv21) ?_
    obtain ⟨b23, i24, aw22, hp25, hw26, ho27, ha28, H⟩ := H
    refine lk (dt := none) R12_18_N rfl rfl rfl (ov_st rfl rfl rfl rfl rfl rfl sz24 hp25 hw26 ho27 ha28) ?_
    refine aops_nil ?_
    refine ago_seqE E12_49 ?_
    refine ago_regE E12_50 (l := [0, 1, 2, 3]) rfl ?_
    refine lk (dt := some 69) R12_19_N rfl rfl rfl (opv_move rfl rfl h6) ?_
    refine lk_call (dt := some 70) R12_19_N rfl rfl rfl (opc_of rfl rfl is43 (ma_cons rfl rfl)) H (fun _ _ h => ⟨rfl, h⟩) fun r29 aw30 H => ?_
    obtain ⟨b32, i33, p31, hp34, hv35, H⟩ := H
    refine lk (dt := some 71) R12_19_N rfl rfl rfl (ov_fldA rfl rfl underlying40 rfl sz24 (by decide) rfl hp34 rfl hv35) ?_
    obtain ⟨b37, i38, aw36, hp39, hw40, ho41, ha42, H⟩ := H
    refine lk (dt := none) R12_19_N rfl rfl rfl (ov_st rfl rfl rfl rfl rfl rfl sz24 hp39 hw40 ho41 ha42) ?_
    refine aops_nil ?_
    refine ago_seqE E12_51 ?_
    refine ago_cut (fun ρ => ρ 2 = t_2 ∧ ρ 4 = p_4 ∧ ρ 6 = r_6 ∧ ρ 7 = m_7 ∧ ρ 8 = .int .i64 n_8 ∧ ρ 9 = .int .i64 i_9 ∧ ρ 10 = p4 ∧ True) ⟨h2, h4, h6, h7, h8, h9, rfl, trivial⟩ (fun ρ ⟨h2, h4, h6, h7, h8, h9, h10, _⟩ => ?_)
    refine ago_regE E12_52 (l := [0, 1, 2, 3]) rfl ?_
    refine lk (dt := some 72) R12_20_N rfl rfl rfl (opv_move rfl rfl h6) ?_
    refine lk_call (dt := some 73) R12_20_N rfl rfl rfl (opc_of rfl rfl is44 (ma_cons rfl (ma_cons rfl rfl))) H (fun _ _ h => ⟨rfl, h⟩) fun r43 aw44 H => ?_
    obtain ⟨b46, i47, p45, hp48, hv49, H⟩ := H
    refine lk (dt := some 74) R12_20_N rfl rfl rfl (ov_fldA rfl rfl underlying40 rfl sz25 (by decide) h10 hp48 rfl hv49) ?_
    obtain ⟨b51, i52, aw50, hp53, hw54, ho55, ha56, H⟩ := H
    refine lk (dt := none) R12_20_N rfl rfl rfl (ov_st rfl rfl rfl rfl rfl (cells_all ho55) sz25 hp53 hw54 ho55 ha56) ?_
    refine aops_nil ?_
    refine ago_regE E12_53 (l := [0, 1, 2, 3, 4, 5, 6]) rfl ?_
    obtain ⟨b58, i59, p57, hp60, hv61, H⟩ := H
    refine lk (dt := some 75) R12_21_N rfl rfl rfl (ov_fldA rfl rfl underlying46 rfl sz26 (by decide) h7 hp60 rfl hv61) ?_
    obtain ⟨b62, i63, x65, hp64, hg66, H⟩ := H
    refine lk (dt := some 76) R12_21_N rfl rfl rfl (ov_ldV rfl underlying26 rfl rfl rfl hp64 hg66) ?_
    obtain ⟨b67, i68, hp69, c70, hg74, c71, hg75, c72, hg76, c73, hg77, H⟩ := H
    refine lk (dt := some 77) R12_21_N rfl rfl rfl (ov_ldN rfl underlying40 rfl sz40 rfl h10 hp69 (getN_cons hg74 (getN_cons hg75 (getN_cons hg76 (getN_cons hg77 getN_nil))))) ?_
    obtain ⟨p78, aw79, hp80, ha81, H⟩ := H
    refine lk (dt := some 78) R12_21_N rfl rfl rfl (ov_bsA (r := [.int .u64 c70, .int .u64 c71, .int .u64 c72, c73]) (vs := [.agg #[.int .u64 c70, .int .u64 c71, .int .u64 c72, c73]]) rfl rfl underlying26 sz40 z40 rfl rfl rfl rfl rfl (mp_cons rfl rfl) (.cons (v := .agg #[.int .u64 c70, .int .u64 c71, .int .u64 c72, c73]) (xs := [.int .u64 c70, .int .u64 c71, .int .u64 c72, c73]) (r := []) rfl rfl .nil) hp80 ha81) ?_
    obtain ⟨v82, aw83, hq84, H⟩ := H
    refine lk (dt := some 79) R12_21_N rfl rfl rfl (ov_app rfl rfl rfl rfl underlying26 sz40 by40 underlying26 rfl z40 rfl (by decide) (by decide) rfl rfl hq84) ?_
    obtain ⟨b86, i87, p85, hp88, hv89, H⟩ := H
    refine lk (dt := some 80) R12_21_N rfl rfl rfl (ov_fldA rfl rfl underlying46 rfl sz26 (by decide) h7 hp88 rfl hv89) ?_
    obtain ⟨b91, i92, aw90, hp93, hw94, ho95, ha96, H⟩ := H
    refine lk (dt := none) R12_21_N rfl rfl rfl (ov_st rfl rfl rfl rfl rfl (cells_all ho95) sz26 hp93 hw94 ho95 ha96) ?_
    refine aops_nil ?_
    refine ago_inBlock ?_
    refine ago_regE E12_54 (l := [0, 1, 2]) rfl ?_
    refine lk (dt := some 61) R12_16_N rfl rfl rfl (opv_move rfl rfl h9) ?_
    refine lk (dt := some 62) R12_16_N rfl rfl rfl (opv_add rfl rfl rfl rfl rfl) ?_
    refine lk (dt := some 9) R12_16_N rfl rfl rfl (opv_assign rfl rfl rfl) ?_
    refine aops_nil ?_
    refine ago_inLoop ?_
    exact L1 _ t_2 p_4 r_6 m_7 n_8 (IntKind.i64.wrap (i_9 + 1)) aw90 h2 h4 h6 h7 h8 rfl H
  · replace H := cnd_f H hb1
    refine ago_exitE E12_42 rfl ?_
    refine ago_seqE E12_55 ?_
    refine ago_regE E12_56 (l := [0, 1, 2, 3]) rfl ?_
    refine lk (dt := some 81) R12_22_N rfl rfl rfl (opv_move rfl rfl h6) ?_
    refine lk_call (dt := some 82) R12_22_N rfl rfl rfl (opc_of rfl rfl is44 (ma_cons rfl (ma_cons rfl rfl))) H (fun _ _ h => ⟨rfl, h⟩) fun r97 aw98 H => ?_
    obtain ⟨b100, i101, p99, hp102, hv103, H⟩ := H
    refine lk (dt := some 83) R12_22_N rfl rfl rfl (ov_fldA rfl rfl underlying46 rfl sz25 (by decide) h7 hp102 rfl hv103) ?_
    obtain ⟨b105, i106, aw104, hp107, hw108, ho109, ha110, H⟩ := H
    refine lk (dt := none) R12_22_N rfl rfl rfl (ov_st rfl rfl rfl rfl rfl (cells_all ho109) sz25 hp107 hw108 ho109 ha110) ?_
    refine aops_nil ?_
    refine ago_seqE E12_57 ?_
    refine ago_seqE E12_58 ?_
    refine ago_regE E12_59 (l := [0, 1, 2, 3, 4, 5, 6]) rfl ?_
    refine lk (dt := some 84) R12_23_N rfl rfl rfl (opv_move rfl rfl h6) ?_
    obtain ⟨hp111, H⟩ := H
    refine lk (dt := some 85) R12_23_N rfl rfl rfl (ov_nck rfl rfl rfl hp111) ?_
    obtain ⟨b113, i114, p112, hp115, hv116, H⟩ := H
    refine lk (dt := some 86) R12_23_N rfl rfl rfl (ov_fldA rfl rfl underlying94 rfl sz3 (by decide) rfl hp115 rfl hv116) ?_
    obtain ⟨b117, i118, x120, hp119, hg121, H⟩ := H
    refine lk (dt := some 87) R12_23_N rfl rfl rfl (ov_ldI rfl underlying3 rfl rfl hp119 hg121) ?_
    refine lk (dt := some 88) R12_23_N rfl rfl rfl (opv_move rfl rfl h4) ?_
    obtain ⟨q123, l124, c125, n122, hv126, hn127, H⟩ := H
    refine lk (dt := some 89) R12_23_N rfl rfl rfl (ov_len rfl rfl rfl underlying25 rfl hv126 hn127) ?_
    refine lk (dt := some 90) R12_23_N rfl rfl rfl (opv_neI rfl rfl rfl rfl rfl) ?_
    refine aops_nil ?_
    refine ago_condE  E12_60 rfl rfl (fun hb128 => ?_) (fun hb128 => ?_)
    · replace H := cnd_t H hb128
      refine ago_seqE E12_61 ?_
      refine ago_regE E12_62 (l := [0, 1, 2]) rfl ?_
      refine lk (dt := some 91) R12_24_N rfl rfl rfl (ov_bld (r := [.int .u8 0, .int .i64 0, .int .i64 0, .int .u64 0, .int .u64 0, .int .u64 0, .int .u64 0, .bool false, (.slice none 0 0), (.slice none 0 0)]) rfl rfl bo46 rfl (fillN rfl)) ?_
      obtain ⟨b130, i131, aw129, hp132, hw133, ho134, ha135, H⟩ := H
      refine lk (dt := none) R12_24_N rfl rfl rfl (ov_st rfl rfl rfl h2 rfl rfl sz46 hp132 hw133 ho134 ha135) ?_
      refine lk (dt := some 3) R12_24_N rfl rfl rfl (opv_assign rfl rfl rfl) ?_
      refine aops_nil ?_
      obtain ⟨b136, i137, hp138, c139, hg149, c140, hg150, c141, hg151, c142, hg152, c143, hg153, c144, hg154, c145, hg155, c146, hg156, c147, hg157, c148, hg158, H⟩ := H
      exact ago_retE E12_63 (r := (c139, c140, c141, c142, c143, c144, c145, c146, c147, c148, 3)) (ares_2 rfl (oneN h2 hp138 underlying46 rfl sz46 (getN_cons hg149 (getN_cons hg150 (getN_cons hg151 (getN_cons hg152 (getN_cons hg153 (getN_cons hg154 (getN_cons hg155 (getN_cons hg156 (getN_cons hg157 (getN_cons hg158 getN_nil))))))))))) (oneT rfl)) rfl H
    · replace H := cnd_f H hb128
      refine ago_skipE E12_64 ?_
      refine ago_seqE E12_65 ?_
      refine ago_regE E12_66 (l := [0, 1, 2]) rfl ?_
      obtain ⟨b159, i160, hp161, c162, hg172, c163, hg173, c164, hg174, c165, hg175, c166, hg176, c167, hg177, c168, hg178, c169, hg179, c170, hg180, c171, hg181, H⟩ := H
      refine lk (dt := some 92) R12_25_N rfl rfl rfl (ov_ldN rfl underlying46 rfl sz46 rfl h7 hp161 (getN_cons hg172 (getN_cons hg173 (getN_cons hg174 (getN_cons hg175 (getN_cons hg176 (getN_cons hg177 (getN_cons hg178 (getN_cons hg179 (getN_cons hg180 (getN_cons hg181 getN_nil))))))))))) ?_
      obtain ⟨b183, i184, aw182, hp185, hw186, ho187, ha188, H⟩ := H
      refine lk (dt := none) R12_25_N rfl rfl rfl (ov_st rfl rfl rfl h2 rfl rfl sz46 hp185 hw186 ho187 ha188) ?_
      refine lk (dt := some 3) R12_25_N rfl rfl rfl (opv_assign rfl rfl rfl) ?_
      refine aops_nil ?_
      obtain ⟨b189, i190, hp191, c192, hg202, c193, hg203, c194, hg204, c195, hg205, c196, hg206, c197, hg207, c198, hg208, c199, hg209, c200, hg210, c201, hg211, H⟩ := H
      exact ago_retE E12_67 (r := (c192, c193, c194, c195, c196, c197, c198, c199, c200, c201, 0)) (ares_2 rfl (oneN h2 hp191 underlying46 rfl sz46 (getN_cons hg202 (getN_cons hg203 (getN_cons hg204 (getN_cons hg205 (getN_cons hg206 (getN_cons hg207 (getN_cons hg208 (getN_cons hg209 (getN_cons hg210 (getN_cons hg211 getN_nil))))))))))) (oneT rfl)) rfl H
theorem S12_1s_ok (Q : (Int × Int × Int × Int × Int × Int × Int × Bool × Value × Value × Int) → AW → Prop) (E : List PanicEntry → AW → Prop)  (nx1 : Value → Value → Value → Value → Int → Int → AW → Prop) (L1 : ∀ (ρ : Env) (t_2 : Value) (p_4 : Value) (r_6 : Value) (m_7 : Value) (n_8 : Int) (i_9 : Int) (aw : AW) (h2 : ρ 2 = t_2) (h4 : ρ 4 = p_4) (h6 : ρ 6 = r_6) (h7 : ρ 7 = m_7) (h8 : ρ 8 = .int .i64 n_8) (h9 : ρ 9 = .int .i64 i_9), nx1 t_2 p_4 r_6 m_7 n_8 i_9 aw → AGo prog 93 [.code C12_37, .inLoop C12_37, .inBlock 0, .code C12_55] ρ [] aw (RR prog f12 93 sh12 Q E)) (ρ : Env) (t_2 : Value) (p_4 : Value) (r_6 : Value) (m_7 : Value) (n_8 : Int) (i_9 : Int) (aw : AW) (h2 : ρ 2 = t_2) (h4 : ρ 4 = p_4) (h6 : ρ 6 = r_6) (h7 : ρ 7 = m_7) (h8 : ρ 8 = .int .i64 n_8) (h9 : ρ 9 = .int .i64 i_9) (H : S12_1s Q E  nx1 t_2 p_4 r_6 m_7 n_8 i_9 aw) :
    AGo prog 93 [.code C12_37, .inLoop C12_37, .inBlock 0, .code C12_55] ρ [] aw (RR prog f12 93 sh12 Q E) := by
  unfold S12_1s at H
  refine ago_seqE E12_37 ?_
  refine ago_seqE E12_38 ?_
  refine ago_regE E12_39 (l := [0, 1, 2, 3, 4, 5, 6, 7, 8, 9]) rfl ?_
  refine lk (dt := some 51) R12_15_N rfl rfl rfl (opv_move rfl rfl h9) ?_
  refine lk (dt := some 52) R12_15_N rfl rfl rfl (opv_move rfl rfl h8) ?_
  refine lk (dt := some 53) R12_15_N rfl rfl rfl (opv_lt rfl rfl rfl rfl rfl) ?_
  refine lk (dt := some 54) R12_15_N rfl rfl rfl (opv_move rfl rfl rfl) ?_
  rcases Bool.eq_false_or_eq_true (decide (i_9 < n_8)) with hb212 | hb212
  · replace H := cnd_t H hb212
    refine lk (dt := some 55) R12_15_N rfl rfl ⟨_, rfl, .inl ⟨_, rfl, gq hb212 rfl⟩⟩ (opv_move rfl rfl h6) ?_
    obtain ⟨hp213, H⟩ := H
    refine lk (dt := some 56) R12_15_N rfl rfl ⟨_, rfl, .inl ⟨_, rfl, gq hb212 rfl⟩⟩ (ov_nck rfl rfl rfl hp213) ?_
    obtain ⟨b215, i216, p214, hp217, hv218, H⟩ := H
    refine lk (dt := some 57) R12_15_N rfl rfl ⟨_, rfl, .inl ⟨_, rfl, gq hb212 rfl⟩⟩ (ov_fldA rfl rfl underlying94 rfl sz3 (by decide) rfl hp217 rfl hv218) ?_
    obtain ⟨b219, i220, x222, hp221, hg223, H⟩ := H
    refine lk (dt := some 58) R12_15_N rfl rfl ⟨_, rfl, .inl ⟨_, rfl, gq hb212 rfl⟩⟩ (ov_ldI rfl underlying3 rfl rfl hp221 hg223) ?_
    refine lk (dt := some 59) R12_15_N rfl rfl ⟨_, rfl, .inl ⟨_, rfl, gq hb212 rfl⟩⟩ (opv_ge rfl rfl rfl rfl rfl) ?_
    refine lk (dt := some 60) R12_15_N rfl rfl rfl (ov_pickT rfl rfl rfl rfl rfl hb212 rfl) ?_
    refine aops_nil ?_
    exact S12_2_ok Q E nx1 L1 _ t_2 p_4 r_6 m_7 n_8 i_9 (decide (0 ≤ x222)) aw h2 h4 h6 h7 h8 h9 rfl H
  · replace H := cnd_f H hb212
    refine lk_skip (dt := some 55) R12_15_N rfl rfl ⟨_, rfl, .inl ⟨_, rfl, gq hb212 rfl⟩⟩ ?_
    refine lk_skip (dt := some 56) R12_15_N rfl rfl ⟨_, rfl, .inl ⟨_, rfl, gq hb212 rfl⟩⟩ ?_
    refine lk_skip (dt := some 57) R12_15_N rfl rfl ⟨_, rfl, .inl ⟨_, rfl, gq hb212 rfl⟩⟩ ?_
    refine lk_skip (dt := some 58) R12_15_N rfl rfl ⟨_, rfl, .inl ⟨_, rfl, gq hb212 rfl⟩⟩ ?_
    refine lk_skip (dt := some 59) R12_15_N rfl rfl ⟨_, rfl, .inl ⟨_, rfl, gq hb212 rfl⟩⟩ ?_
    refine lk (dt := some 60) R12_15_N rfl rfl rfl (ov_pickF rfl rfl rfl rfl rfl hb212 rfl) ?_
    refine aops_nil ?_
    exact S12_2_ok Q E nx1 L1 _ t_2 p_4 r_6 m_7 n_8 i_9 false aw h2 h4 h6 h7 h8 h9 rfl H
theorem S12_1_ok (Q : (Int × Int × Int × Int × Int × Int × Int × Bool × Value × Value × Int) → AW → Prop) (E : List PanicEntry → AW → Prop)  : ∀ (n : Nat) (ρ : Env) (t_2 : Value) (p_4 : Value) (r_6 : Value) (m_7 : Value) (n_8 : Int) (i_9 : Int) (aw : AW) (h2 : ρ 2 = t_2) (h4 : ρ 4 = p_4) (h6 : ρ 6 = r_6) (h7 : ρ 7 = m_7) (h8 : ρ 8 = .int .i64 n_8) (h9 : ρ 9 = .int .i64 i_9), S12_1 Q E  n t_2 p_4 r_6 m_7 n_8 i_9 aw →
    AGo prog 93 [.code C12_37, .inLoop C12_37, .inBlock 0, .code C12_55] ρ [] aw (RR prog f12 93 sh12 Q E)
  | 0, _, _, _, _, _, _, _, _, _, _, _, _, _, _ => fun H => H.elim
  | n + 1, ρ, t_2, p_4, r_6, m_7, n_8, i_9, aw, h2, h4, h6, h7, h8, h9 => fun H => S12_1s_ok Q E  _ (S12_1_ok Q E  n) ρ t_2 p_4 r_6 m_7 n_8 i_9 aw h2 h4 h6 h7 h8 h9 H
theorem S12_0_ok (Q : (Int × Int × Int × Int × Int × Int × Int × Bool × Value × Value × Int) → AW → Prop) (E : List PanicEntry → AW → Prop)  (ρ : Env) (b_0 : Value) (aw : AW) (h0 : ρ 0 = b_0) (H : S12_0 Q E  b_0 aw) :
    AGo prog 93 [.code C12_0] ρ [] aw (RR prog f12 93 sh12 Q E) := by
  unfold S12_0 at H
  refine ago_seqE E12_0 ?_
  refine ago_regE E12_1 (l := [0, 1]) rfl ?_
  obtain ⟨p224, aw225, hp226, ha227, H⟩ := H
  refine lk (dt := some 2) R12_0_N rfl rfl rfl (ov_alloc rfl z46 rfl rfl hp226 ha227) ?_
  refine lk (dt := some 3) R12_0_N rfl rfl rfl (opv_assign rfl rfl rfl) ?_
  refine aops_nil ?_
  refine ago_seqE E12_2 ?_
  refine ago_regE E12_3 (l := [0, 1, 2, 3, 4, 5, 6]) rfl ?_
  refine lk (dt := some 12) R12_1_N rfl rfl rfl (opv_move rfl rfl h0) ?_
  refine lk_call (dt := some 13) R12_1_N rfl rfl rfl (opc_of rfl rfl is40 (ma_cons rfl rfl)) H (fun _ _ h => ⟨rfl, h⟩) fun r228 aw229 H => ?_
  refine lk (dt := some 11) R12_1_N rfl rfl rfl (opv_move rfl rfl rfl) ?_
  refine lk (dt := some 14) R12_1_N rfl rfl rfl (opv_extract rfl rfl rfl rfl) ?_
  refine lk (dt := some 15) R12_1_N rfl rfl rfl (opv_extract rfl rfl rfl rfl) ?_
  refine lk (dt := some 4) R12_1_N rfl rfl rfl (opv_assign rfl rfl rfl) ?_
  refine lk (dt := some 5) R12_1_N rfl rfl rfl (opv_assign rfl rfl rfl) ?_
  refine aops_nil ?_
  refine ago_seqE E12_4 ?_
  refine ago_seqE E12_5 ?_
  refine ago_regE E12_6 (l := [0, 1]) rfl ?_
  refine lk (dt := some 16) R12_2_N rfl rfl rfl (opv_move rfl rfl rfl) ?_
  refine lk (dt := some 17) R12_2_N rfl rfl rfl (opv_neI rfl rfl rfl rfl rfl) ?_
  refine aops_nil ?_
  refine ago_condE  E12_7 rfl rfl (fun hb230 => ?_) (fun hb230 => ?_)
  · replace H := cnd_t H hb230
    refine ago_seqE E12_8 ?_
    refine ago_regE E12_9 (l := [0, 1, 2, 3]) rfl ?_
    refine lk (dt := some 18) R12_3_N rfl rfl rfl (ov_bld (r := [.int .u8 0, .int .i64 0, .int .i64 0, .int .u64 0, .int .u64 0, .int .u64 0, .int .u64 0, .bool false, (.slice none 0 0), (.slice none 0 0)]) rfl rfl bo46 rfl (fillN rfl)) ?_
    refine lk (dt := some 19) R12_3_N rfl rfl rfl (opv_move rfl rfl rfl) ?_
    obtain ⟨b232, i233, aw231, hp234, hw235, ho236, ha237, H⟩ := H
    refine lk (dt := none) R12_3_N rfl rfl rfl (ov_st rfl rfl rfl rfl rfl rfl sz46 hp234 hw235 ho236 ha237) ?_
    refine lk (dt := some 3) R12_3_N rfl rfl rfl (opv_assign rfl rfl rfl) ?_
    refine aops_nil ?_
    obtain ⟨b238, i239, hp240, c241, hg251, c242, hg252, c243, hg253, c244, hg254, c245, hg255, c246, hg256, c247, hg257, c248, hg258, c249, hg259, c250, hg260, H⟩ := H
    exact ago_retE E12_10 (r := (c241, c242, c243, c244, c245, c246, c247, c248, c249, c250, r228.2)) (ares_2 rfl (oneN rfl hp240 underlying46 rfl sz46 (getN_cons hg251 (getN_cons hg252 (getN_cons hg253 (getN_cons hg254 (getN_cons hg255 (getN_cons hg256 (getN_cons hg257 (getN_cons hg258 (getN_cons hg259 (getN_cons hg260 getN_nil))))))))))) (oneT rfl)) rfl H
  · replace H := cnd_f H hb230
    refine ago_skipE E12_11 ?_
    refine ago_seqE E12_12 ?_
    refine ago_regE E12_13 (l := [0, 1, 2, 3]) rfl ?_
    refine lk (dt := some 20) R12_4_N rfl rfl rfl (opv_move rfl rfl rfl) ?_
    obtain ⟨h1261, H⟩ := H
    refine lk (dt := some 21) R12_4_N rfl rfl rfl (ov_bld (r := [r228.1, .int .i64 0]) rfl rfl bo94 (mp_cons rfl rfl) (fillP (cells_one h1261) rfl rfl rfl (fillN rfl))) ?_
    obtain ⟨p262, aw263, hp264, ha265, H⟩ := H
    refine lk (dt := some 22) R12_4_N rfl rfl rfl (ov_box rfl rfl rfl rfl hp264 ha265) ?_
    refine lk (dt := some 6) R12_4_N rfl rfl rfl (opv_assign rfl rfl rfl) ?_
    refine aops_nil ?_
    refine ago_seqE E12_14 ?_
    refine ago_cut (fun ρ => ρ 2 = p224 ∧ ρ 4 = r228.1 ∧ ρ 6 = p262 ∧ True) ⟨rfl, rfl, rfl, trivial⟩ (fun ρ ⟨h2, h4, h6, _⟩ => ?_)
    refine ago_regE E12_15 (l := [0, 1, 2, 3, 4, 5]) rfl ?_
    refine lk (dt := some 23) R12_5_N rfl rfl rfl (opv_move rfl rfl h6) ?_
    refine lk_call (dt := some 24) R12_5_N rfl rfl rfl (opc_of rfl rfl is41 (ma_cons rfl (ma_cons rfl rfl))) H (fun _ _ h => ⟨rfl, h⟩) fun r266 aw267 H => ?_
    refine lk (dt := some 25) R12_5_N rfl rfl rfl (opv_conv rfl rfl underlying3 underlying5 rfl) ?_
    refine lk (dt := some 26) R12_5_N rfl rfl rfl (ov_bld (r := [.int .u8 (IntKind.u8.wrap r266), .int .i64 0, .int .i64 0, .int .u64 0, .int .u64 0, .int .u64 0, .int .u64 0, .bool false, (.slice none 0 0), (.slice none 0 0)]) rfl rfl bo46 (mp_cons rfl rfl) (fillP rfl rfl rfl rfl (fillN rfl))) ?_
    obtain ⟨p268, aw269, hp270, ha271, H⟩ := H
    refine lk (dt := some 7) R12_5_N rfl rfl rfl (ov_alloc rfl z46 rfl rfl hp270 ha271) ?_
    obtain ⟨b273, i274, aw272, hp275, hw276, ho277, ha278, H⟩ := H
    refine lk (dt := none) R12_5_N rfl rfl rfl (ov_st rfl rfl rfl rfl rfl rfl sz46 hp275 hw276 ho277 ha278) ?_
    refine aops_nil ?_
    refine ago_seqE E12_16 ?_
    refine ago_regE E12_17 (l := [0, 1, 2, 3]) rfl ?_
    refine lk (dt := some 27) R12_6_N rfl rfl rfl (opv_move rfl rfl h6) ?_
    refine lk_call (dt := some 28) R12_6_N rfl rfl rfl (opc_of rfl rfl is42 (ma_cons rfl rfl)) H (fun _ _ h => ⟨rfl, h⟩) fun r279 aw280 H => ?_
    obtain ⟨b282, i283, p281, hp284, hv285, H⟩ := H
    refine lk (dt := some 29) R12_6_N rfl rfl rfl (ov_fldA rfl rfl underlying46 rfl sz3 (by decide) rfl hp284 rfl hv285) ?_
    obtain ⟨b287, i288, aw286, hp289, hw290, ho291, ha292, H⟩ := H
    refine lk (dt := none) R12_6_N rfl rfl rfl (ov_st rfl rfl rfl rfl rfl rfl sz3 hp289 hw290 ho291 ha292) ?_
    refine aops_nil ?_
    refine ago_seqE E12_18 ?_
    refine ago_regE E12_19 (l := [0, 1, 2, 3]) rfl ?_
    refine lk (dt := some 30) R12_7_N rfl rfl rfl (opv_move rfl rfl h6) ?_
    refine lk_call (dt := some 31) R12_7_N rfl rfl rfl (opc_of rfl rfl is42 (ma_cons rfl rfl)) H (fun _ _ h => ⟨rfl, h⟩) fun r293 aw294 H => ?_
    obtain ⟨b296, i297, p295, hp298, hv299, H⟩ := H
    refine lk (dt := some 32) R12_7_N rfl rfl rfl (ov_fldA rfl rfl underlying46 rfl sz3 (by decide) rfl hp298 rfl hv299) ?_
    obtain ⟨b301, i302, aw300, hp303, hw304, ho305, ha306, H⟩ := H
    refine lk (dt := none) R12_7_N rfl rfl rfl (ov_st rfl rfl rfl rfl rfl rfl sz3 hp303 hw304 ho305 ha306) ?_
    refine aops_nil ?_
    refine ago_seqE E12_20 ?_
    refine ago_cut (fun ρ => ρ 2 = p224 ∧ ρ 4 = r228.1 ∧ ρ 6 = p262 ∧ ρ 7 = p268 ∧ True) ⟨h2, h4, h6, rfl, trivial⟩ (fun ρ ⟨h2, h4, h6, h7, _⟩ => ?_)
    refine ago_regE E12_21 (l := [0, 1, 2, 3]) rfl ?_
    refine lk (dt := some 33) R12_8_N rfl rfl rfl (opv_move rfl rfl h6) ?_
    refine lk_call (dt := some 34) R12_8_N rfl rfl rfl (opc_of rfl rfl is43 (ma_cons rfl rfl)) H (fun _ _ h => ⟨rfl, h⟩) fun r307 aw308 H => ?_
    obtain ⟨b310, i311, p309, hp312, hv313, H⟩ := H
    refine lk (dt := some 35) R12_8_N rfl rfl rfl (ov_fldA rfl rfl underlying46 rfl sz24 (by decide) h7 hp312 rfl hv313) ?_
    obtain ⟨b315, i316, aw314, hp317, hw318, ho319, ha320, H⟩ := H
    refine lk (dt := none) R12_8_N rfl rfl rfl (ov_st rfl rfl rfl rfl rfl rfl sz24 hp317 hw318 ho319 ha320) ?_
    refine aops_nil ?_
    refine ago_seqE E12_22 ?_
    refine ago_regE E12_23 (l := [0, 1, 2, 3]) rfl ?_
    refine lk (dt := some 36) R12_9_N rfl rfl rfl (opv_move rfl rfl h6) ?_
    refine lk_call (dt := some 37) R12_9_N rfl rfl rfl (opc_of rfl rfl is43 (ma_cons rfl rfl)) H (fun _ _ h => ⟨rfl, h⟩) fun r321 aw322 H => ?_
    obtain ⟨b324, i325, p323, hp326, hv327, H⟩ := H
    refine lk (dt := some 38) R12_9_N rfl rfl rfl (ov_fldA rfl rfl underlying46 rfl sz24 (by decide) h7 hp326 rfl hv327) ?_
    obtain ⟨b329, i330, aw328, hp331, hw332, ho333, ha334, H⟩ := H
    refine lk (dt := none) R12_9_N rfl rfl rfl (ov_st rfl rfl rfl rfl rfl rfl sz24 hp331 hw332 ho333 ha334) ?_
    refine aops_nil ?_
    refine ago_seqE E12_24 ?_
    refine ago_regE E12_25 (l := [0, 1, 2, 3]) rfl ?_
    refine lk (dt := some 39) R12_10_N rfl rfl rfl (opv_move rfl rfl h6) ?_
    refine lk_call (dt := some 40) R12_10_N rfl rfl rfl (opc_of rfl rfl is43 (ma_cons rfl rfl)) H (fun _ _ h => ⟨rfl, h⟩) fun r335 aw336 H => ?_
    obtain ⟨b338, i339, p337, hp340, hv341, H⟩ := H
    refine lk (dt := some 41) R12_10_N rfl rfl rfl (ov_fldA rfl rfl underlying46 rfl sz24 (by decide) h7 hp340 rfl hv341) ?_
    obtain ⟨b343, i344, aw342, hp345, hw346, ho347, ha348, H⟩ := H
    refine lk (dt := none) R12_10_N rfl rfl rfl (ov_st rfl rfl rfl rfl rfl rfl sz24 hp345 hw346 ho347 ha348) ?_
    refine aops_nil ?_
    refine ago_seqE E12_26 ?_
    refine ago_cut (fun ρ => ρ 2 = p224 ∧ ρ 4 = r228.1 ∧ ρ 6 = p262 ∧ ρ 7 = p268 ∧ True) ⟨h2, h4, h6, h7, trivial⟩ (fun ρ ⟨h2, h4, h6, h7, _⟩ => ?_)
    refine ago_regE E12_27 (l := [0, 1, 2, 3]) rfl ?_
    refine lk (dt := some 42) R12_11_N rfl rfl rfl (opv_move rfl rfl h6) ?_
    refine lk_call (dt := some 43) R12_11_N rfl rfl rfl (opc_of rfl rfl is43 (ma_cons rfl rfl)) H (fun _ _ h => ⟨rfl, h⟩) fun r349 aw350 H => ?_
    obtain ⟨b352, i353, p351, hp354, hv355, H⟩ := H
    refine lk (dt := some 44) R12_11_N rfl rfl rfl (ov_fldA rfl rfl underlying46 rfl sz24 (by decide) h7 hp354 rfl hv355) ?_
    obtain ⟨b357, i358, aw356, hp359, hw360, ho361, ha362, H⟩ := H
    refine lk (dt := none) R12_11_N rfl rfl rfl (ov_st rfl rfl rfl rfl rfl rfl sz24 hp359 hw360 ho361 ha362) ?_
    refine aops_nil ?_
    refine ago_seqE E12_28 ?_
    refine ago_regE E12_29 (l := [0, 1, 2, 3, 4]) rfl ?_
    refine lk (dt := some 45) R12_12_N rfl rfl rfl (opv_move rfl rfl h6) ?_
    refine lk_call (dt := some 46) R12_12_N rfl rfl rfl (opc_of rfl rfl is41 (ma_cons rfl (ma_cons rfl rfl))) H (fun _ _ h => ⟨rfl, h⟩) fun r363 aw364 H => ?_
    refine lk (dt := some 47) R12_12_N rfl rfl rfl (opv_eqI rfl rfl rfl rfl rfl) ?_
    obtain ⟨b366, i367, p365, hp368, hv369, H⟩ := H
    refine lk (dt := some 48) R12_12_N rfl rfl rfl (ov_fldA rfl rfl underlying46 rfl sz4 (by decide) h7 hp368 rfl hv369) ?_
    obtain ⟨b371, i372, aw370, hp373, hw374, ho375, ha376, H⟩ := H
    refine lk (dt := none) R12_12_N rfl rfl rfl (ov_st rfl rfl rfl rfl rfl rfl sz4 hp373 hw374 ho375 ha376) ?_
    refine aops_nil ?_
    refine ago_seqE E12_30 ?_
    refine ago_regE E12_31 (l := [0, 1, 2]) rfl ?_
    refine lk (dt := some 49) R12_13_N rfl rfl rfl (opv_move rfl rfl h6) ?_
    refine lk_call (dt := some 50) R12_13_N rfl rfl rfl (opc_of rfl rfl is41 (ma_cons rfl (ma_cons rfl rfl))) H (fun _ _ h => ⟨rfl, h⟩) fun r377 aw378 H => ?_
    refine lk (dt := some 8) R12_13_N rfl rfl rfl (opv_assign rfl rfl rfl) ?_
    refine aops_nil ?_
    refine ago_seqE E12_32 ?_
    refine ago_seqE E12_33 ?_
    refine ago_cut (fun ρ => ρ 2 = p224 ∧ ρ 4 = r228.1 ∧ ρ 6 = p262 ∧ ρ 7 = p268 ∧ ρ 8 = .int .i64 r377 ∧ True) ⟨h2, h4, h6, h7, rfl, trivial⟩ (fun ρ ⟨h2, h4, h6, h7, h8, _⟩ => ?_)
    refine ago_regE E12_34 (l := [0]) rfl ?_
    refine lk (dt := some 9) R12_14_N rfl rfl rfl (opv_assign rfl rfl rfl) ?_
    refine aops_nil ?_
    refine ago_blockE E12_35 ?_
    refine ago_loopE E12_36 ?_
    obtain ⟨n, H⟩ := H
    exact S12_1_ok Q E  n _ p224 r228.1 p262 p268 r377 0 aw378 h2 h4 h6 h7 h8 rfl H
theorem F12_ok {Q : (Int × Int × Int × Int × Int × Int × Int × Bool × Value × Value × Int) → AW → Prop} {E : List PanicEntry → AW → Prop} (b_0 : Value) (aw : AW) (H : S12_0 Q E b_0 aw) : CallP prog 12 [b_0] aw sh12 Q E :=
  callP_of func12 C12_is rfl (Nat.le_of_ble_eq_true rfl) (S12_0_ok Q E _ b_0 aw rfl H)
end
end Go.Proofs.Try
