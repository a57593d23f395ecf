/- Printed by a program of the prover: what the Go functions of this seat do, in steps. -/
import Derived.Test.YtfdfakapkhflcaaBaF
set_option linter.unusedSectionVars false
set_option linter.unusedSimpArgs false
set_option linter.unusedVariables false
namespace Go.Proofs.Try
open Go Go.Am Go.RowKit
set_option maxHeartbeats 4000000
set_option maxRecDepth 100000
noncomputable section
variable [SymE]
def C3_0 : Code := bodyOf f3
theorem C3_is : f3.body = some C3_0 := by kernel_rfl
def C3_1 : Code := cl C3_0
def R3_0 : Array Oper := regOps C3_1
def C3_2 : Code := cr C3_0
def C3_3 : Code := cl C3_2
def C3_4 : Code := cl C3_3
def R3_1 : Array Oper := regOps C3_4
def C3_5 : Code := cr C3_3
def C3_6 : Code := cl C3_5
def C3_7 : Code := cl C3_6
def R3_2 : Array Oper := regOps C3_7
def C3_8 : Code := cr C3_6
def C3_9 : Code := cr C3_5
def C3_10 : Code := cr C3_2
def C3_11 : Code := cl C3_10
def R3_3 : Array Oper := regOps C3_11
def C3_12 : Code := cr C3_10
def C3_13 : Code := cl C3_12
def R3_4 : Array Oper := regOps C3_13
def C3_14 : Code := cr C3_12
def C3_15 : Code := cl C3_14
def C3_16 : Code := cl C3_15
def R3_5 : Array Oper := regOps C3_16
def C3_17 : Code := cr C3_15
def C3_18 : Code := cl C3_17
def C3_19 : Code := cl C3_18
def R3_6 : Array Oper := regOps C3_19
def C3_20 : Code := cr C3_18
def C3_21 : Code := cr C3_17
def C3_22 : Code := cr C3_14
def C3_23 : Code := cl C3_22
def C3_24 : Code := cl C3_23
def R3_7 : Array Oper := regOps C3_24
def C3_25 : Code := cr C3_23
def C3_26 : Code := cl C3_25
def C3_27 : Code := cl C3_26
def C3_28 : Code := cl C3_27
def C3_29 : Code := cl C3_28
def R3_8 : Array Oper := regOps C3_29
def C3_30 : Code := cr C3_28
def C3_31 : Code := cl C3_30
def C3_32 : Code := cr C3_30
def C3_33 : Code := cr C3_27
def C3_34 : Code := cl C3_33
def C3_35 : Code := cl C3_34
def C3_36 : Code := cl C3_35
def C3_37 : Code := cl C3_36
def R3_10 : Array Oper := regOps C3_37
def C3_38 : Code := cr C3_36
def C3_39 : Code := cl C3_38
def C3_40 : Code := cl C3_39
def R3_11 : Array Oper := regOps C3_40
def C3_41 : Code := cr C3_39
def C3_42 : Code := cr C3_38
def C3_43 : Code := cr C3_35
def C3_44 : Code := cl C3_43
def R3_12 : Array Oper := regOps C3_44
def C3_45 : Code := cr C3_43
def C3_46 : Code := cl C3_45
def R3_13 : Array Oper := regOps C3_46
def C3_47 : Code := cr C3_45
def C3_48 : Code := cl C3_47
def R3_14 : Array Oper := regOps C3_48
def C3_49 : Code := cr C3_47
def C3_50 : Code := cl C3_49
def C3_51 : Code := cl C3_50
def R3_15 : Array Oper := regOps C3_51
def C3_52 : Code := cr C3_50
def C3_53 : Code := cr C3_49
def C3_54 : Code := cr C3_33
def R3_9 : Array Oper := regOps C3_54
def C3_55 : Code := cr C3_22
def C3_56 : Code := cl C3_55
def C3_57 : Code := cl C3_56
def R3_16 : Array Oper := regOps C3_57
def C3_58 : Code := cr C3_56
def C3_59 : Code := cl C3_58
def C3_60 : Code := cl C3_59
def R3_17 : Array Oper := regOps C3_60
def C3_61 : Code := cr C3_59
def C3_62 : Code := cr C3_58
def C3_63 : Code := cr C3_55
def C3_64 : Code := cl C3_63
def C3_65 : Code := cl C3_64
def R3_18 : Array Oper := regOps C3_65
def C3_66 : Code := cr C3_64
def C3_67 : Code := cl C3_66
def C3_68 : Code := cl C3_67
def C3_69 : Code := cl C3_68
def C3_70 : Code := cl C3_69
def R3_19 : Array Oper := regOps C3_70
def C3_71 : Code := cr C3_69
def C3_72 : Code := cl C3_71
def C3_73 : Code := cr C3_71
def C3_74 : Code := cr C3_68
def C3_75 : Code := cl C3_74
def C3_76 : Code := cl C3_75
def C3_77 : Code := cl C3_76
def C3_78 : Code := cl C3_77
def R3_21 : Array Oper := regOps C3_78
def C3_79 : Code := cr C3_77
def C3_80 : Code := cl C3_79
def C3_81 : Code := cl C3_80
def R3_22 : Array Oper := regOps C3_81
def C3_82 : Code := cr C3_80
def C3_83 : Code := cr C3_79
def C3_84 : Code := cr C3_76
def C3_85 : Code := cl C3_84
def R3_23 : Array Oper := regOps C3_85
def C3_86 : Code := cr C3_84
def C3_87 : Code := cl C3_86
def C3_88 : Code := cl C3_87
def R3_24 : Array Oper := regOps C3_88
def C3_89 : Code := cr C3_87
def C3_90 : Code := cl C3_89
def C3_91 : Code := cl C3_90
def R3_25 : Array Oper := regOps C3_91
def C3_92 : Code := cr C3_90
def C3_93 : Code := cr C3_89
def C3_94 : Code := cr C3_86
def R3_26 : Array Oper := regOps C3_94
def C3_95 : Code := cr C3_74
def R3_20 : Array Oper := regOps C3_95
def C3_96 : Code := cr C3_63
def C3_97 : Code := cl C3_96
def R3_27 : Array Oper := regOps C3_97
def C3_98 : Code := cr C3_96
theorem R3_0_N : dstsOk 138 R3_0 = true := by decide +kernel
theorem E3_1 : C3_1 = .region 0 R3_0 false := rfl
theorem R3_1_N : dstsOk 138 R3_1 = true := by decide +kernel
theorem E3_4 : C3_4 = .region 1 R3_1 false := rfl
theorem R3_2_N : dstsOk 138 R3_2 = true := by decide +kernel
theorem E3_7 : C3_7 = .region 2 R3_2 false := rfl
theorem E3_8 : C3_8 = .ret := rfl
theorem E3_6 : C3_6 = .seq C3_7 C3_8 := rfl
theorem E3_9 : C3_9 = .skip := rfl
theorem E3_5 : C3_5 = .cond (.tmp 23) C3_6 C3_9 := rfl
theorem E3_3 : C3_3 = .seq C3_4 C3_5 := rfl
theorem R3_3_N : dstsOk 138 R3_3 = true := by decide +kernel
theorem E3_11 : C3_11 = .region 3 R3_3 false := rfl
theorem R3_4_N : dstsOk 138 R3_4 = true := by decide +kernel
theorem E3_13 : C3_13 = .region 4 R3_4 false := rfl
theorem R3_5_N : dstsOk 138 R3_5 = true := by decide +kernel
theorem E3_16 : C3_16 = .region 5 R3_5 false := rfl
theorem R3_6_N : dstsOk 138 R3_6 = true := by decide +kernel
theorem E3_19 : C3_19 = .region 6 R3_6 false := rfl
theorem E3_20 : C3_20 = .ret := rfl
theorem E3_18 : C3_18 = .seq C3_19 C3_20 := rfl
theorem E3_21 : C3_21 = .skip := rfl
theorem E3_17 : C3_17 = .cond (.tmp 35) C3_18 C3_21 := rfl
theorem E3_15 : C3_15 = .seq C3_16 C3_17 := rfl
theorem R3_7_N : dstsOk 138 R3_7 = true := by decide +kernel
theorem E3_24 : C3_24 = .region 7 R3_7 false := rfl
theorem R3_8_N : dstsOk 138 R3_8 = true := by decide +kernel
theorem E3_29 : C3_29 = .region 8 R3_8 false := rfl
theorem E3_31 : C3_31 = .skip := rfl
theorem E3_32 : C3_32 = .exit 0 := rfl
theorem E3_30 : C3_30 = .cond (.tmp 38) C3_31 C3_32 := rfl
theorem E3_28 : C3_28 = .seq C3_29 C3_30 := rfl
theorem R3_10_N : dstsOk 138 R3_10 = true := by decide +kernel
theorem E3_37 : C3_37 = .region 10 R3_10 false := rfl
theorem R3_11_N : dstsOk 138 R3_11 = true := by decide +kernel
theorem E3_40 : C3_40 = .region 11 R3_11 false := rfl
theorem E3_41 : C3_41 = .ret := rfl
theorem E3_39 : C3_39 = .seq C3_40 C3_41 := rfl
theorem E3_42 : C3_42 = .skip := rfl
theorem E3_38 : C3_38 = .cond (.tmp 43) C3_39 C3_42 := rfl
theorem E3_36 : C3_36 = .seq C3_37 C3_38 := rfl
theorem R3_12_N : dstsOk 138 R3_12 = true := by decide +kernel
theorem E3_44 : C3_44 = .region 12 R3_12 false := rfl
theorem R3_13_N : dstsOk 138 R3_13 = true := by decide +kernel
theorem E3_46 : C3_46 = .region 13 R3_13 false := rfl
theorem R3_14_N : dstsOk 138 R3_14 = true := by decide +kernel
theorem E3_48 : C3_48 = .region 14 R3_14 false := rfl
theorem R3_15_N : dstsOk 138 R3_15 = true := by decide +kernel
theorem E3_51 : C3_51 = .region 15 R3_15 false := rfl
theorem E3_52 : C3_52 = .ret := rfl
theorem E3_50 : C3_50 = .seq C3_51 C3_52 := rfl
theorem E3_53 : C3_53 = .skip := rfl
theorem E3_49 : C3_49 = .cond (.tmp 52) C3_50 C3_53 := rfl
theorem E3_47 : C3_47 = .seq C3_48 C3_49 := rfl
theorem E3_45 : C3_45 = .seq C3_46 C3_47 := rfl
theorem E3_43 : C3_43 = .seq C3_44 C3_45 := rfl
theorem E3_35 : C3_35 = .seq C3_36 C3_43 := rfl
theorem E3_34 : C3_34 = .block 1 C3_35 := rfl
theorem R3_9_N : dstsOk 138 R3_9 = true := by decide +kernel
theorem E3_54 : C3_54 = .region 9 R3_9 false := rfl
theorem E3_33 : C3_33 = .seq C3_34 C3_54 := rfl
theorem E3_27 : C3_27 = .seq C3_28 C3_33 := rfl
theorem E3_26 : C3_26 = .loop C3_27 := rfl
theorem E3_25 : C3_25 = .block 0 C3_26 := rfl
theorem E3_23 : C3_23 = .seq C3_24 C3_25 := rfl
theorem R3_16_N : dstsOk 138 R3_16 = true := by decide +kernel
theorem E3_57 : C3_57 = .region 16 R3_16 false := rfl
theorem R3_17_N : dstsOk 138 R3_17 = true := by decide +kernel
theorem E3_60 : C3_60 = .region 17 R3_17 false := rfl
theorem E3_61 : C3_61 = .ret := rfl
theorem E3_59 : C3_59 = .seq C3_60 C3_61 := rfl
theorem E3_62 : C3_62 = .skip := rfl
theorem E3_58 : C3_58 = .cond (.tmp 65) C3_59 C3_62 := rfl
theorem E3_56 : C3_56 = .seq C3_57 C3_58 := rfl
theorem R3_18_N : dstsOk 138 R3_18 = true := by decide +kernel
theorem E3_65 : C3_65 = .region 18 R3_18 false := rfl
theorem R3_19_N : dstsOk 138 R3_19 = true := by decide +kernel
theorem E3_70 : C3_70 = .region 19 R3_19 false := rfl
theorem E3_72 : C3_72 = .skip := rfl
theorem E3_73 : C3_73 = .exit 2 := rfl
theorem E3_71 : C3_71 = .cond (.tmp 69) C3_72 C3_73 := rfl
theorem E3_69 : C3_69 = .seq C3_70 C3_71 := rfl
theorem R3_21_N : dstsOk 138 R3_21 = true := by decide +kernel
theorem E3_78 : C3_78 = .region 21 R3_21 false := rfl
theorem R3_22_N : dstsOk 138 R3_22 = true := by decide +kernel
theorem E3_81 : C3_81 = .region 22 R3_22 false := rfl
theorem E3_82 : C3_82 = .ret := rfl
theorem E3_80 : C3_80 = .seq C3_81 C3_82 := rfl
theorem E3_83 : C3_83 = .skip := rfl
theorem E3_79 : C3_79 = .cond (.tmp 77) C3_80 C3_83 := rfl
theorem E3_77 : C3_77 = .seq C3_78 C3_79 := rfl
theorem R3_23_N : dstsOk 138 R3_23 = true := by decide +kernel
theorem R3_23_O : linXOk R3_23 13 13 [0, 1, 2, 3, 4, 5, 6] [(7, [], [8, 9, 10, 11, 12])] [8, 9, 10, 11, 12] [] [(14, [10, 11, 12], [15, 16, 17])] = true := by decide +kernel
theorem E3_85 : C3_85 = .region 23 R3_23 true := rfl
theorem R3_24_N : dstsOk 138 R3_24 = true := by decide +kernel
theorem R3_24_O : linOk R3_24 [0, 1, 2, 3, 4, 5, 6, 7, 8, 9, 10, 11, 12, 13, 14, 15, 16, 17, 18, 19, 20, 21, 22, 23, 24, 25, 26, 27, 28, 29, 30, 31, 32, 33, 34, 35, 36, 37, 38, 39, 40, 41, 42, 43, 44, 45] [] = true := by decide +kernel
theorem E3_88 : C3_88 = .region 24 R3_24 true := rfl
theorem R3_25_N : dstsOk 138 R3_25 = true := by decide +kernel
theorem E3_91 : C3_91 = .region 25 R3_25 false := rfl
theorem E3_92 : C3_92 = .ret := rfl
theorem E3_90 : C3_90 = .seq C3_91 C3_92 := rfl
theorem E3_93 : C3_93 = .skip := rfl
theorem E3_89 : C3_89 = .cond (.tmp 136) C3_90 C3_93 := rfl
theorem E3_87 : C3_87 = .seq C3_88 C3_89 := rfl
theorem R3_26_N : dstsOk 138 R3_26 = true := by decide +kernel
theorem E3_94 : C3_94 = .region 26 R3_26 false := rfl
theorem E3_86 : C3_86 = .seq C3_87 C3_94 := rfl
theorem E3_84 : C3_84 = .seq C3_85 C3_86 := rfl
theorem E3_76 : C3_76 = .seq C3_77 C3_84 := rfl
theorem E3_75 : C3_75 = .block 3 C3_76 := rfl
theorem R3_20_N : dstsOk 138 R3_20 = true := by decide +kernel
theorem E3_95 : C3_95 = .region 20 R3_20 false := rfl
theorem E3_74 : C3_74 = .seq C3_75 C3_95 := rfl
theorem E3_68 : C3_68 = .seq C3_69 C3_74 := rfl
theorem E3_67 : C3_67 = .loop C3_68 := rfl
theorem E3_66 : C3_66 = .block 2 C3_67 := rfl
theorem E3_64 : C3_64 = .seq C3_65 C3_66 := rfl
theorem R3_27_N : dstsOk 138 R3_27 = true := by decide +kernel
theorem E3_97 : C3_97 = .region 27 R3_27 false := rfl
theorem E3_98 : C3_98 = .ret := rfl
theorem E3_96 : C3_96 = .seq C3_97 C3_98 := rfl
theorem E3_63 : C3_63 = .seq C3_64 C3_96 := rfl
theorem E3_55 : C3_55 = .seq C3_56 C3_63 := rfl
theorem E3_22 : C3_22 = .seq C3_23 C3_55 := rfl
theorem E3_14 : C3_14 = .seq C3_15 C3_22 := rfl
theorem E3_12 : C3_12 = .seq C3_13 C3_14 := rfl
theorem E3_10 : C3_10 = .seq C3_11 C3_12 := rfl
theorem E3_2 : C3_2 = .seq C3_3 C3_10 := rfl
theorem E3_0 : C3_0 = .seq C3_1 C3_2 := rfl
def S3_2s (Q : Bool → AW → Prop) (E : List PanicEntry → AW → Prop)  (nx2 : Value → Value → Int → AW → Prop) (cells_1 : Value) (s_8 : Value) (i_12 : Int) (aw : AW) : Prop :=
  slen cells_1 fun n1 =>
  cnd (decide (i_12 < n1)) (ixS cells_1 i_12 1 fun p8 =>
  ldV aw p8 fun x20 =>
  slen x20 fun n22 =>
  cnd (decide (2000 < n22)) (Q true aw) (ptr s_8 fun b29 i30 =>
  gI .i64 aw b29 i30 fun c32 =>
  gI .i64 aw b29 (i30 + 1) fun c33 =>
  gI .i64 aw b29 (i30 + 2) fun c34 =>
  gI .u64 aw b29 (i30 + 3) fun c35 =>
  gI .i64 aw b29 (i30 + 4) fun c36 =>
  gI .u64 aw b29 (i30 + 5) fun c37 =>
  gI .u64 aw b29 (i30 + 6) fun c38 =>
  gV aw b29 (i30 + 7) fun c39 =>
  gV aw b29 (i30 + 8) fun c40 =>
  gI .u64 aw b29 (i30 + 9) fun c41 =>
  gI .u8 aw b29 (i30 + 10) fun c42 =>
  gI .i64 aw b29 (i30 + 11) fun c43 =>
  gI .i64 aw b29 (i30 + 12) fun c44 =>
  gV aw b29 (i30 + 13) fun c45 =>
  gV aw b29 (i30 + 14) fun c46 =>
  gV aw b29 (i30 + 15) fun c47 =>
  ixS cells_1 i_12 1 fun p64 =>
  ldV aw p64 fun x76 =>
  CallP prog 10 [.agg #[.int .i64 c32, .int .i64 c33, .int .i64 c34, .int .u64 c35, .int .i64 c36, .int .u64 c37, .int .u64 c38, c39, c40, .int .u64 c41, .int .u8 c42, .int .i64 c43, .int .i64 c44, c45, c46, c47], .int .u64 3, .int .u64 (IntKind.u64.wrap i_12), x76] aw sh10 (fun r78 aw79 =>
  RoOk aw aw79 ∧ alc aw79 [.int .i64 0, .int .i64 0, .int .i64 0, .int .u64 0, .int .i64 0, .int .u64 0, .int .u64 0, (.slice none 0 0), (.slice none 0 0), .int .u64 0, .int .u8 0, .int .i64 0, .int .i64 0, (.slice none 0 0), (.slice none 0 0), (.slice none 0 0)] 30 0 fun p81 aw82 =>
  st aw82 p81 [.int .i64 r78.1, .int .i64 r78.2.1, .int .i64 r78.2.2.1, .int .u64 r78.2.2.2.1, .int .i64 r78.2.2.2.2.1, .int .u64 r78.2.2.2.2.2.1, .int .u64 r78.2.2.2.2.2.2.1, r78.2.2.2.2.2.2.2.1, r78.2.2.2.2.2.2.2.2.1, .int .u64 r78.2.2.2.2.2.2.2.2.2.1, .int .u8 r78.2.2.2.2.2.2.2.2.2.2.1, .int .i64 r78.2.2.2.2.2.2.2.2.2.2.2.1, .int .i64 r78.2.2.2.2.2.2.2.2.2.2.2.2.1, r78.2.2.2.2.2.2.2.2.2.2.2.2.2.1, r78.2.2.2.2.2.2.2.2.2.2.2.2.2.2.1, r78.2.2.2.2.2.2.2.2.2.2.2.2.2.2.2.1] fun aw85 =>
  cnd (!decide (r78.2.2.2.2.2.2.2.2.2.2.2.2.2.2.2.2.2.2 = 0)) (Q false aw85) (slen r78.2.2.2.2.2.2.2.2.2.2.2.2.2.2.2.2.1 fun n94 =>
  cnd (decide (0 < n94)) (Q false aw85) (cnd (!decide (r78.2.2.2.2.2.2.2.2.2.2.2.2.2.2.2.2.2.1 = (IntKind.u64.wrap ((IntKind.u64.wrap i_12) + 2)))) (Q false aw85) (fldA p81 9 fun p104 =>
  ldI .u64 aw85 p104 fun x112 =>
  cnd (!decide (x112 = r78.2.2.2.2.2.2.2.2.2.2.2.2.2.2.2.2.2.1)) (Q false aw85) (fldA p81 8 fun p116 =>
  ldV aw85 p116 fun x124 =>
  ixS x124 (IntKind.u64.wrap (r78.2.2.2.2.2.2.2.2.2.2.2.2.2.2.2.2.2.1 - 1)) 4 fun p126 =>
  fldA p126 3 fun p135 =>
  ldV aw85 p135 fun x143 =>
  toS aw85 x143 fun s145 =>
  ixS cells_1 i_12 1 fun p152 =>
  ldV aw85 p152 fun x164 =>
  toS aw85 x164 fun s166 =>
  cnd (!decide (s145 = s166)) (Q false aw85) (fldA p81 8 fun p175 =>
  ldV aw85 p175 fun x183 =>
  ixS x183 (IntKind.u64.wrap (r78.2.2.2.2.2.2.2.2.2.2.2.2.2.2.2.2.2.1 - 1)) 4 fun p185 =>
  fldA p185 0 fun p194 =>
  ldI .u64 aw85 p194 fun x202 =>
  cnd (!decide (x202 = 1)) (Q false aw85) (ptr p81 fun b205 i206 =>
  gI .i64 aw85 b205 i206 fun c208 =>
  gI .i64 aw85 b205 (i206 + 1) fun c209 =>
  gI .i64 aw85 b205 (i206 + 2) fun c210 =>
  gI .u64 aw85 b205 (i206 + 3) fun c211 =>
  gI .i64 aw85 b205 (i206 + 4) fun c212 =>
  gI .u64 aw85 b205 (i206 + 5) fun c213 =>
  gI .u64 aw85 b205 (i206 + 6) fun c214 =>
  gV aw85 b205 (i206 + 7) fun c215 =>
  gV aw85 b205 (i206 + 8) fun c216 =>
  gI .u64 aw85 b205 (i206 + 9) fun c217 =>
  gI .u8 aw85 b205 (i206 + 10) fun c218 =>
  gI .i64 aw85 b205 (i206 + 11) fun c219 =>
  gI .i64 aw85 b205 (i206 + 12) fun c220 =>
  gV aw85 b205 (i206 + 13) fun c221 =>
  gV aw85 b205 (i206 + 14) fun c222 =>
  gV aw85 b205 (i206 + 15) fun c223 =>
  st aw85 s_8 [.int .i64 c208, .int .i64 c209, .int .i64 c210, .int .u64 c211, .int .i64 c212, .int .u64 c213, .int .u64 c214, c215, c216, .int .u64 c217, .int .u8 c218, .int .i64 c219, .int .i64 c220, c221, c222, c223] fun aw240 =>
  nx2 cells_1 s_8 (IntKind.i64.wrap (i_12 + 1)) aw240))))))) (fun _ _ => False))) (Q true aw)
def S3_2 (Q : Bool → AW → Prop) (E : List PanicEntry → AW → Prop)  : Nat → Value → Value → Int → AW → Prop
  | 0 => fun _ _ _ _ => False
  | n + 1 => S3_2s Q E  (S3_2 Q E  n)
def S3_1s (Q : Bool → AW → Prop) (E : List PanicEntry → AW → Prop)  (nx1 : Value → Int → Int → Value → Int → AW → Prop) (cells_1 : Value) (draw_2 : Int) (k_7 : Int) (s_8 : Value) (i_10 : Int) (aw : AW) : Prop :=
  cnd (decide (i_10 < k_7)) (fldA s_8 10 fun p248 =>
  ldI .u8 aw p248 fun x256 =>
  cnd (!decide (x256 = 0)) (Q false aw) (ptr s_8 fun b259 i260 =>
  gI .i64 aw b259 i260 fun c262 =>
  gI .i64 aw b259 (i260 + 1) fun c263 =>
  gI .i64 aw b259 (i260 + 2) fun c264 =>
  gI .u64 aw b259 (i260 + 3) fun c265 =>
  gI .i64 aw b259 (i260 + 4) fun c266 =>
  gI .u64 aw b259 (i260 + 5) fun c267 =>
  gI .u64 aw b259 (i260 + 6) fun c268 =>
  gV aw b259 (i260 + 7) fun c269 =>
  gV aw b259 (i260 + 8) fun c270 =>
  gI .u64 aw b259 (i260 + 9) fun c271 =>
  gI .u8 aw b259 (i260 + 10) fun c272 =>
  gI .i64 aw b259 (i260 + 11) fun c273 =>
  gI .i64 aw b259 (i260 + 12) fun c274 =>
  gV aw b259 (i260 + 13) fun c275 =>
  gV aw b259 (i260 + 14) fun c276 =>
  gV aw b259 (i260 + 15) fun c277 =>
  CallP prog 9 [.agg #[.int .i64 c262, .int .i64 c263, .int .i64 c264, .int .u64 c265, .int .i64 c266, .int .u64 c267, .int .u64 c268, c269, c270, .int .u64 c271, .int .u8 c272, .int .i64 c273, .int .i64 c274, c275, c276, c277], .int .i64 draw_2] aw sh9 (fun r294 aw295 =>
  st aw295 s_8 [.int .i64 r294.1, .int .i64 r294.2.1, .int .i64 r294.2.2.1, .int .u64 r294.2.2.2.1, .int .i64 r294.2.2.2.2.1, .int .u64 r294.2.2.2.2.2.1, .int .u64 r294.2.2.2.2.2.2.1, r294.2.2.2.2.2.2.2.1, r294.2.2.2.2.2.2.2.2.1, .int .u64 r294.2.2.2.2.2.2.2.2.2.1, .int .u8 r294.2.2.2.2.2.2.2.2.2.2.1, .int .i64 r294.2.2.2.2.2.2.2.2.2.2.2.1, .int .i64 r294.2.2.2.2.2.2.2.2.2.2.2.2.1, r294.2.2.2.2.2.2.2.2.2.2.2.2.2.1, r294.2.2.2.2.2.2.2.2.2.2.2.2.2.2.1, r294.2.2.2.2.2.2.2.2.2.2.2.2.2.2.2.1] fun aw296 =>
  slen r294.2.2.2.2.2.2.2.2.2.2.2.2.2.2.2.2 fun n303 =>
  cnd (decide (0 < n303)) (Q false aw296) (nx1 cells_1 draw_2 k_7 s_8 (IntKind.i64.wrap (i_10 + 1)) aw296)) E)) (fldA s_8 10 fun p310 =>
  ldI .u8 aw p310 fun x318 =>
  cnd (!decide (x318 = 2)) (Q false aw) (fldA s_8 3 fun p322 =>
  ldI .u64 aw p322 fun x330 =>
  cnd (!decide (x330 = 1)) (Q false aw) (fldA s_8 9 fun p334 =>
  ldI .u64 aw p334 fun x342 =>
  cnd (!decide (x342 = 1)) (Q false aw) (∃ n, S3_2 Q E  n cells_1 s_8 0 aw))))
def S3_1 (Q : Bool → AW → Prop) (E : List PanicEntry → AW → Prop)  : Nat → Value → Int → Int → Value → Int → AW → Prop
  | 0 => fun _ _ _ _ _ _ => False
  | n + 1 => S3_1s Q E  (S3_1 Q E  n)
def S3_0 (Q : Bool → AW → Prop) (E : List PanicEntry → AW → Prop)  (wait_0 : Int) (cells_1 : Value) (draw_2 : Int) (aw : AW) : Prop :=
  CallP prog 7 [] aw sh7 (fun r345 aw346 =>
  cnd (!r345) (CallP prog 7 [] aw346 sh7 (fun r349 aw350 =>
  Q r349 aw350) E) (slen cells_1 fun n351 =>
  cnd (decide (20 < n351)) (CallP prog 7 [] aw346 sh7 (fun r358 aw359 =>
  Q r358 aw359) E) (CallP prog 8 [.int .i64 1, .int .i64 0, .int .i64 (IntKind.i64.wrap (2 + (Int.tmod (IntKind.i64.wrap wait_0) 50)))] aw346 sh8 (fun r360 aw361 =>
  alc aw361 [.int .i64 0, .int .i64 0, .int .i64 0, .int .u64 0, .int .i64 0, .int .u64 0, .int .u64 0, (.slice none 0 0), (.slice none 0 0), .int .u64 0, .int .u8 0, .int .i64 0, .int .i64 0, (.slice none 0 0), (.slice none 0 0), (.slice none 0 0)] 30 0 fun p362 aw363 =>
  st aw363 p362 [.int .i64 r360.1, .int .i64 r360.2.1, .int .i64 r360.2.2.1, .int .u64 r360.2.2.2.1, .int .i64 r360.2.2.2.2.1, .int .u64 r360.2.2.2.2.2.1, .int .u64 r360.2.2.2.2.2.2.1, r360.2.2.2.2.2.2.2.1, r360.2.2.2.2.2.2.2.2.1, .int .u64 r360.2.2.2.2.2.2.2.2.2.1, .int .u8 r360.2.2.2.2.2.2.2.2.2.2.1, .int .i64 r360.2.2.2.2.2.2.2.2.2.2.2.1, .int .i64 r360.2.2.2.2.2.2.2.2.2.2.2.2.1, r360.2.2.2.2.2.2.2.2.2.2.2.2.2.1, r360.2.2.2.2.2.2.2.2.2.2.2.2.2.2.1, r360.2.2.2.2.2.2.2.2.2.2.2.2.2.2.2.1] fun aw366 =>
  cnd (!decide (r360.2.2.2.2.2.2.2.2.2.2.2.2.2.2.2.2 = 0)) (Q false aw366) (∃ n, S3_1 Q E  n cells_1 draw_2 (IntKind.i64.wrap (2 + (Int.tmod (IntKind.i64.wrap wait_0) 50))) p362 0 aw366)) E))) E
theorem S3_2s_ok (Q : Bool → AW → Prop) (E : List PanicEntry → AW → Prop)  (nx2 : Value → Value → Int → AW → Prop) (L2 : ∀ (ρ : Env) (cells_1 : Value) (s_8 : Value) (i_12 : Int) (aw : AW) (h1 : ρ 1 = cells_1) (h8 : ρ 8 = s_8) (h12 : ρ 12 = .int .i64 i_12), nx2 cells_1 s_8 i_12 aw → AGo prog 138 [.code C3_68, .inLoop C3_68, .inBlock 2, .code C3_96] ρ [] aw (RR prog f3 138 sh3 Q E)) (ρ : Env) (cells_1 : Value) (s_8 : Value) (i_12 : Int) (aw : AW) (h1 : ρ 1 = cells_1) (h8 : ρ 8 = s_8) (h12 : ρ 12 = .int .i64 i_12) (H : S3_2s Q E  nx2 cells_1 s_8 i_12 aw) :
    AGo prog 138 [.code C3_68, .inLoop C3_68, .inBlock 2, .code C3_96] ρ [] aw (RR prog f3 138 sh3 Q E) := by
  unfold S3_2s at H
  refine ago_seqE E3_68 ?_
  refine ago_seqE E3_69 ?_
  refine ago_regE E3_70 (l := [0, 1, 2, 3]) rfl ?_
  refine lk (dt := some 66) R3_19_N rfl rfl rfl (opv_move rfl rfl h12) ?_
  refine lk (dt := some 67) R3_19_N rfl rfl rfl (opv_move rfl rfl h1) ?_
  obtain ⟨q2, l3, c4, n1, hv5, hn6, H⟩ := H
  refine lk (dt := some 68) R3_19_N rfl rfl rfl (ov_len rfl rfl rfl underlying22 rfl hv5 hn6) ?_
  refine lk (dt := some 69) R3_19_N rfl rfl rfl (opv_lt rfl rfl rfl rfl rfl) ?_
  refine aops_nil ?_
  refine ago_condE  E3_71 rfl rfl (fun hb7 => ?_) (fun hb7 => ?_)
  · replace H := cnd_t H hb7
    refine ago_skipE E3_72 ?_
    refine ago_seqE E3_74 ?_
    refine ago_blockE E3_75 ?_
    refine ago_seqE E3_76 ?_
    refine ago_seqE E3_77 ?_
    refine ago_regE E3_78 (l := [0, 1, 2, 3, 4, 5]) rfl ?_
    refine lk (dt := some 72) R3_21_N rfl rfl rfl (opv_move rfl rfl h1) ?_
    refine lk (dt := some 73) R3_21_N rfl rfl rfl (opv_move rfl rfl h12) ?_
    obtain ⟨b9, i10, l11, c12, p8, hp13, h014, hj15, hv16, H⟩ := H
    refine lk (dt := some 74) R3_21_N rfl rfl rfl (ov_ixS rfl rfl rfl underlying22 sz25 rfl rfl hp13 h014 hj15 hv16) ?_
    obtain ⟨b17, i18, x20, hp19, hg21, H⟩ := H
    refine lk (dt := some 75) R3_21_N rfl rfl rfl (ov_ldV rfl underlying25 rfl rfl rfl hp19 hg21) ?_
    obtain ⟨q23, l24, c25, n22, hv26, hn27, H⟩ := H
    refine lk (dt := some 76) R3_21_N rfl rfl rfl (ov_len rfl rfl rfl underlying25 rfl hv26 hn27) ?_
    refine lk (dt := some 77) R3_21_N rfl rfl rfl (opv_gt rfl rfl rfl rfl rfl) ?_
    refine aops_nil ?_
    refine ago_condE  E3_79 rfl rfl (fun hb28 => ?_) (fun hb28 => ?_)
    · replace H := cnd_t H hb28
      refine ago_seqE E3_80 ?_
      refine ago_regE E3_81 (l := [0]) rfl ?_
      refine lk (dt := some 6) R3_22_N rfl rfl rfl (opv_assign rfl rfl rfl) ?_
      refine aops_nil ?_
      exact ago_retE E3_82 (r := true) (ares_1 rfl (oneT rfl)) rfl H
    replace H := cnd_f H hb28
    refine ago_skipE E3_83 ?_
    refine ago_seqE E3_84 ?_
    obtain ⟨b29, i30, hp31, c32, hg48, c33, hg49, c34, hg50, c35, hg51, c36, hg52, c37, hg53, c38, hg54, c39, hg55, c40, hg56, c41, hg57, c42, hg58, c43, hg59, c44, hg60, c45, hg61, c46, hg62, c47, hg63, H⟩ := H
    obtain ⟨b65, i66, l67, c68, p64, hp69, h070, hj71, hv72, H⟩ := H
    obtain ⟨b73, i74, x76, hp75, hg77, H⟩ := H
    refine ago_drawXH (p := [0, 1, 2, 3, 4, 5, 6]) (x := 13) (d := 13) (pre := [(7, [], [8, 9, 10, 11, 12])]) (qx := [8, 9, 10, 11, 12]) (nhx := []) (post := [(14, [10, 11, 12], [15, 16, 17])]) (cells := [.int .i64 0, .int .i64 0, .int .i64 0, .int .u64 0, .int .i64 0, .int .u64 0, .int .u64 0, (.slice none 0 0), (.slice none 0 0), .int .u64 0, .int .u8 0, .int .i64 0, .int .i64 0, (.slice none 0 0), (.slice none 0 0), (.slice none 0 0)]) (elem := 30) (esz := 0) (mkv := fun b => .pointer (some ⟨b, 0, none⟩)) (hv := [(0, Value.agg #[.int .i64 c32, .int .i64 c33, .int .i64 c34, .int .u64 c35, .int .i64 c36, .int .u64 c37, .int .u64 c38, c39, c40, .int .u64 c41, .int .u8 c42, .int .i64 c43, .int .i64 c44, c45, c46, c47]), (1, Value.int .i64 i_12), (2, Value.int .u64 (IntKind.u64.wrap i_12)), (3, cells_1), (4, Value.int .i64 i_12), (5, p64), (6, x76)]) E3_85 mixed R3_23_N R3_23_O rfl rfl rfl (makes_alloc rfl z30 rfl rfl) rfl (pv_cons rfl (pv_cons rfl (pv_cons rfl (pv_cons rfl (pv_cons rfl (pv_cons rfl (pv_cons rfl (pv_nil _))))))))
      (ffc (d := 79) (v := .agg #[.int .i64 c32, .int .i64 c33, .int .i64 c34, .int .u64 c35, .int .i64 c36, .int .u64 c37, .int .u64 c38, c39, c40, .int .u64 c41, .int .u8 c42, .int .i64 c43, .int .i64 c44, c45, c46, c47]) (hd_v rfl fun ρ hρ => ⟨rfl, ov_ldN rfl underlying30 rfl sz30 rfl ((hρ 8 (lmem rfl)).trans h8) hp31 (getN_cons hg48 (getN_cons hg49 (getN_cons hg50 (getN_cons hg51 (getN_cons hg52 (getN_cons hg53 (getN_cons hg54 (getN_cons hg55 (getN_cons hg56 (getN_cons hg57 (getN_cons hg58 (getN_cons hg59 (getN_cons hg60 (getN_cons hg61 (getN_cons hg62 (getN_cons hg63 getN_nil))))))))))))))))⟩) rfl rfl
      (ffc (d := 80) (v := .int .i64 i_12) (hd_v rfl fun ρ hρ => ⟨rfl, opv_move rfl rfl ((hρ 12 (lmem rfl)).trans h12)⟩) rfl rfl
      (ffc (d := 81) (v := .int .u64 (IntKind.u64.wrap i_12)) (hd_v rfl fun ρ hρ => ⟨rfl, opv_conv rfl rfl underlying3 underlying24 ((hρ 80 (lmem rfl)).trans rfl)⟩) rfl rfl
      (ffc (d := 82) (v := cells_1) (hd_v rfl fun ρ hρ => ⟨rfl, opv_move rfl rfl ((hρ 1 (lmem rfl)).trans h1)⟩) rfl rfl
      (ffc (d := 83) (v := .int .i64 i_12) (hd_v rfl fun ρ hρ => ⟨rfl, opv_move rfl rfl ((hρ 12 (lmem rfl)).trans h12)⟩) rfl rfl
      (ffc (d := 84) (v := p64) (hd_v rfl fun ρ hρ => ⟨rfl, ov_ixS rfl rfl rfl underlying22 sz25 ((hρ 82 (lmem rfl)).trans rfl) ((hρ 83 (lmem rfl)).trans rfl) hp69 h070 hj71 hv72⟩) rfl rfl
      (ffc (d := 85) (v := x76) (hd_v rfl fun ρ hρ => ⟨rfl, ov_ldV rfl underlying25 rfl rfl ((hρ 84 (lmem rfl)).trans rfl) hp75 hg77⟩) rfl rfl
      ffn))))))) ?_
    refine lx_call (dt := some 86) rfl rfl (fun ρ hρ => ⟨rfl, opc_of rfl rfl is10 (ma_cons ((hρ 79 (lmem rfl)).trans rfl) (ma_cons rfl (ma_cons ((hρ 81 (lmem rfl)).trans rfl) (ma_cons ((hρ 85 (lmem rfl)).trans rfl) rfl))))⟩) H (fun _ _ h => h) fun r78 aw79 H => ?_
    refine lx_next (l := [8, 9, 10, 11, 12]) (hv := [(8, Value.tuple #[.agg #[.int .i64 r78.1, .int .i64 r78.2.1, .int .i64 r78.2.2.1, .int .u64 r78.2.2.2.1, .int .i64 r78.2.2.2.2.1, .int .u64 r78.2.2.2.2.2.1, .int .u64 r78.2.2.2.2.2.2.1, r78.2.2.2.2.2.2.2.1, r78.2.2.2.2.2.2.2.2.1, .int .u64 r78.2.2.2.2.2.2.2.2.2.1, .int .u8 r78.2.2.2.2.2.2.2.2.2.2.1, .int .i64 r78.2.2.2.2.2.2.2.2.2.2.2.1, .int .i64 r78.2.2.2.2.2.2.2.2.2.2.2.2.1, r78.2.2.2.2.2.2.2.2.2.2.2.2.2.1, r78.2.2.2.2.2.2.2.2.2.2.2.2.2.2.1, r78.2.2.2.2.2.2.2.2.2.2.2.2.2.2.2.1], r78.2.2.2.2.2.2.2.2.2.2.2.2.2.2.2.2.1, .int .u64 r78.2.2.2.2.2.2.2.2.2.2.2.2.2.2.2.2.2.1, .int .i64 r78.2.2.2.2.2.2.2.2.2.2.2.2.2.2.2.2.2.2]), (9, Value.agg #[.int .i64 r78.1, .int .i64 r78.2.1, .int .i64 r78.2.2.1, .int .u64 r78.2.2.2.1, .int .i64 r78.2.2.2.2.1, .int .u64 r78.2.2.2.2.2.1, .int .u64 r78.2.2.2.2.2.2.1, r78.2.2.2.2.2.2.2.1, r78.2.2.2.2.2.2.2.2.1, .int .u64 r78.2.2.2.2.2.2.2.2.2.1, .int .u8 r78.2.2.2.2.2.2.2.2.2.2.1, .int .i64 r78.2.2.2.2.2.2.2.2.2.2.2.1, .int .i64 r78.2.2.2.2.2.2.2.2.2.2.2.2.1, r78.2.2.2.2.2.2.2.2.2.2.2.2.2.1, r78.2.2.2.2.2.2.2.2.2.2.2.2.2.2.1, r78.2.2.2.2.2.2.2.2.2.2.2.2.2.2.2.1]), (10, r78.2.2.2.2.2.2.2.2.2.2.2.2.2.2.2.2.1), (11, Value.int .u64 r78.2.2.2.2.2.2.2.2.2.2.2.2.2.2.2.2.2.1), (12, Value.int .i64 r78.2.2.2.2.2.2.2.2.2.2.2.2.2.2.2.2.2.2)]) rfl rfl (pv_cons rfl (pv_cons rfl (pv_cons rfl (pv_cons rfl (pv_cons rfl (pv_nil _))))))
      (ffc (d := 78) (v := .tuple #[.agg #[.int .i64 r78.1, .int .i64 r78.2.1, .int .i64 r78.2.2.1, .int .u64 r78.2.2.2.1, .int .i64 r78.2.2.2.2.1, .int .u64 r78.2.2.2.2.2.1, .int .u64 r78.2.2.2.2.2.2.1, r78.2.2.2.2.2.2.2.1, r78.2.2.2.2.2.2.2.2.1, .int .u64 r78.2.2.2.2.2.2.2.2.2.1, .int .u8 r78.2.2.2.2.2.2.2.2.2.2.1, .int .i64 r78.2.2.2.2.2.2.2.2.2.2.2.1, .int .i64 r78.2.2.2.2.2.2.2.2.2.2.2.2.1, r78.2.2.2.2.2.2.2.2.2.2.2.2.2.1, r78.2.2.2.2.2.2.2.2.2.2.2.2.2.2.1, r78.2.2.2.2.2.2.2.2.2.2.2.2.2.2.2.1], r78.2.2.2.2.2.2.2.2.2.2.2.2.2.2.2.2.1, .int .u64 r78.2.2.2.2.2.2.2.2.2.2.2.2.2.2.2.2.2.1, .int .i64 r78.2.2.2.2.2.2.2.2.2.2.2.2.2.2.2.2.2.2]) (hd_v rfl fun ρ hρ => ⟨rfl, opv_move rfl rfl ((hρ 86 (lmem rfl)).trans rfl)⟩) rfl rfl
      (ffc (d := 87) (v := .agg #[.int .i64 r78.1, .int .i64 r78.2.1, .int .i64 r78.2.2.1, .int .u64 r78.2.2.2.1, .int .i64 r78.2.2.2.2.1, .int .u64 r78.2.2.2.2.2.1, .int .u64 r78.2.2.2.2.2.2.1, r78.2.2.2.2.2.2.2.1, r78.2.2.2.2.2.2.2.2.1, .int .u64 r78.2.2.2.2.2.2.2.2.2.1, .int .u8 r78.2.2.2.2.2.2.2.2.2.2.1, .int .i64 r78.2.2.2.2.2.2.2.2.2.2.2.1, .int .i64 r78.2.2.2.2.2.2.2.2.2.2.2.2.1, r78.2.2.2.2.2.2.2.2.2.2.2.2.2.1, r78.2.2.2.2.2.2.2.2.2.2.2.2.2.2.1, r78.2.2.2.2.2.2.2.2.2.2.2.2.2.2.2.1]) (hd_v rfl fun ρ hρ => ⟨rfl, opv_extract rfl rfl ((hρ 78 (lmem rfl)).trans rfl) rfl⟩) rfl rfl
      (ffc (d := 88) (v := r78.2.2.2.2.2.2.2.2.2.2.2.2.2.2.2.2.1) (hd_v rfl fun ρ hρ => ⟨rfl, opv_extract rfl rfl ((hρ 78 (lmem rfl)).trans rfl) rfl⟩) rfl rfl
      (ffc (d := 89) (v := .int .u64 r78.2.2.2.2.2.2.2.2.2.2.2.2.2.2.2.2.2.1) (hd_v rfl fun ρ hρ => ⟨rfl, opv_extract rfl rfl ((hρ 78 (lmem rfl)).trans rfl) rfl⟩) rfl rfl
      (ffc (d := 90) (v := .int .i64 r78.2.2.2.2.2.2.2.2.2.2.2.2.2.2.2.2.2.2) (hd_v rfl fun ρ hρ => ⟨rfl, opv_extract rfl rfl ((hρ 78 (lmem rfl)).trans rfl) rfl⟩) rfl rfl
      ffn))))) ?_
    obtain ⟨hr80, p81, aw82, hp83, ha84, H⟩ := H
    refine lx_met (v := p81) (l := [8, 9, 10, 11, 12]) (hv := []) hr80 hp83 ha84 rfl rfl (pv_nil _)
      (ffc (d := 78) (v := .tuple #[.agg #[.int .i64 r78.1, .int .i64 r78.2.1, .int .i64 r78.2.2.1, .int .u64 r78.2.2.2.1, .int .i64 r78.2.2.2.2.1, .int .u64 r78.2.2.2.2.2.1, .int .u64 r78.2.2.2.2.2.2.1, r78.2.2.2.2.2.2.2.1, r78.2.2.2.2.2.2.2.2.1, .int .u64 r78.2.2.2.2.2.2.2.2.2.1, .int .u8 r78.2.2.2.2.2.2.2.2.2.2.1, .int .i64 r78.2.2.2.2.2.2.2.2.2.2.2.1, .int .i64 r78.2.2.2.2.2.2.2.2.2.2.2.2.1, r78.2.2.2.2.2.2.2.2.2.2.2.2.2.1, r78.2.2.2.2.2.2.2.2.2.2.2.2.2.2.1, r78.2.2.2.2.2.2.2.2.2.2.2.2.2.2.2.1], r78.2.2.2.2.2.2.2.2.2.2.2.2.2.2.2.2.1, .int .u64 r78.2.2.2.2.2.2.2.2.2.2.2.2.2.2.2.2.2.1, .int .i64 r78.2.2.2.2.2.2.2.2.2.2.2.2.2.2.2.2.2.2]) (hd_v rfl fun ρ hρ => ⟨rfl, opv_move rfl rfl ((hρ 86 (lmem rfl)).trans rfl)⟩) rfl rfl
      (ffc (d := 87) (v := .agg #[.int .i64 r78.1, .int .i64 r78.2.1, .int .i64 r78.2.2.1, .int .u64 r78.2.2.2.1, .int .i64 r78.2.2.2.2.1, .int .u64 r78.2.2.2.2.2.1, .int .u64 r78.2.2.2.2.2.2.1, r78.2.2.2.2.2.2.2.1, r78.2.2.2.2.2.2.2.2.1, .int .u64 r78.2.2.2.2.2.2.2.2.2.1, .int .u8 r78.2.2.2.2.2.2.2.2.2.2.1, .int .i64 r78.2.2.2.2.2.2.2.2.2.2.2.1, .int .i64 r78.2.2.2.2.2.2.2.2.2.2.2.2.1, r78.2.2.2.2.2.2.2.2.2.2.2.2.2.1, r78.2.2.2.2.2.2.2.2.2.2.2.2.2.2.1, r78.2.2.2.2.2.2.2.2.2.2.2.2.2.2.2.1]) (hd_v rfl fun ρ hρ => ⟨rfl, opv_extract rfl rfl ((hρ 78 (lmem rfl)).trans rfl) rfl⟩) rfl rfl
      (ffc (d := 88) (v := r78.2.2.2.2.2.2.2.2.2.2.2.2.2.2.2.2.1) (hd_v rfl fun ρ hρ => ⟨rfl, opv_extract rfl rfl ((hρ 78 (lmem rfl)).trans rfl) rfl⟩) rfl rfl
      (ffc (d := 89) (v := .int .u64 r78.2.2.2.2.2.2.2.2.2.2.2.2.2.2.2.2.2.1) (hd_v rfl fun ρ hρ => ⟨rfl, opv_extract rfl rfl ((hρ 78 (lmem rfl)).trans rfl) rfl⟩) rfl rfl
      (ffc (d := 90) (v := .int .i64 r78.2.2.2.2.2.2.2.2.2.2.2.2.2.2.2.2.2.2) (hd_v rfl fun ρ hρ => ⟨rfl, opv_extract rfl rfl ((hρ 78 (lmem rfl)).trans rfl) rfl⟩) rfl rfl
      ffn))))) ?_
    obtain ⟨b86, i87, aw85, hp88, hw89, ho90, ha91, H⟩ := H
    refine lt_val (dt := none) (v := undef) rfl rfl (fun ρ hρ => ⟨rfl, ov_st rfl rfl rfl ((hρ 13 (lmem rfl)).trans rfl) ((hρ 87 (lmem rfl)).trans rfl) rfl sz30 hp88 hw89 ho90 ha91⟩) ?_
    refine lt_next (l := [10, 11, 12, 15, 16, 17]) (hv := [(15, r78.2.2.2.2.2.2.2.2.2.2.2.2.2.2.2.2.1), (16, Value.int .u64 r78.2.2.2.2.2.2.2.2.2.2.2.2.2.2.2.2.2.1), (17, Value.int .i64 r78.2.2.2.2.2.2.2.2.2.2.2.2.2.2.2.2.2.2)]) rfl rfl (pv_cons rfl (pv_cons rfl (pv_cons rfl (pv_nil _))))
      (ffc (d := 88) (v := r78.2.2.2.2.2.2.2.2.2.2.2.2.2.2.2.2.1) (hd_v rfl fun ρ hρ => ⟨rfl, opv_extract rfl rfl ((hρ 78 (lmem rfl)).trans rfl) rfl⟩) rfl rfl
      (ffc (d := 89) (v := .int .u64 r78.2.2.2.2.2.2.2.2.2.2.2.2.2.2.2.2.2.1) (hd_v rfl fun ρ hρ => ⟨rfl, opv_extract rfl rfl ((hρ 78 (lmem rfl)).trans rfl) rfl⟩) rfl rfl
      (ffc (d := 90) (v := .int .i64 r78.2.2.2.2.2.2.2.2.2.2.2.2.2.2.2.2.2.2) (hd_v rfl fun ρ hρ => ⟨rfl, opv_extract rfl rfl ((hρ 78 (lmem rfl)).trans rfl) rfl⟩) rfl rfl
      (ffc (d := 14) (v := r78.2.2.2.2.2.2.2.2.2.2.2.2.2.2.2.2.1) (hd_v rfl fun ρ hρ => ⟨rfl, opv_assign rfl rfl ((hρ 88 (lmem rfl)).trans rfl)⟩) rfl rfl
      (ffc (d := 15) (v := .int .u64 r78.2.2.2.2.2.2.2.2.2.2.2.2.2.2.2.2.2.1) (hd_v rfl fun ρ hρ => ⟨rfl, opv_assign rfl rfl ((hρ 89 (lmem rfl)).trans rfl)⟩) rfl rfl
      (ffc (d := 16) (v := .int .i64 r78.2.2.2.2.2.2.2.2.2.2.2.2.2.2.2.2.2.2) (hd_v rfl fun ρ hρ => ⟨rfl, opv_assign rfl rfl ((hρ 90 (lmem rfl)).trans rfl)⟩) rfl rfl
      ffn)))))) ?_
    refine lt_end ?_
    refine ago_seqE E3_86 ?_
    refine ago_seqE E3_87 ?_
    refine ago_cut (fun ρ => ρ 1 = cells_1 ∧ ρ 8 = s_8 ∧ ρ 12 = .int .i64 i_12 ∧ ρ 13 = p81 ∧ ρ 14 = r78.2.2.2.2.2.2.2.2.2.2.2.2.2.2.2.2.1 ∧ ρ 15 = .int .u64 r78.2.2.2.2.2.2.2.2.2.2.2.2.2.2.2.2.2.1 ∧ ρ 16 = .int .i64 r78.2.2.2.2.2.2.2.2.2.2.2.2.2.2.2.2.2.2 ∧ True) ⟨h1, h8, h12, rfl, rfl, rfl, rfl, trivial⟩ (fun ρ ⟨h1, h8, h12, h13, h14, h15, h16, _⟩ => ?_)
    rcases Bool.eq_false_or_eq_true (!decide (r78.2.2.2.2.2.2.2.2.2.2.2.2.2.2.2.2.2.2 = 0)) with hb92 | hb92
    · replace H := cnd_t H hb92
      refine ago_drawH (p := [0, 1, 2, 3, 4, 5, 6, 7, 8, 9, 10, 11, 12, 13, 14, 15, 16, 17, 18, 19, 20, 21, 22, 23, 24, 25, 26, 27, 28, 29, 30, 31, 32, 33, 34, 35, 36, 37, 38, 39, 40, 41, 42, 43, 44, 45]) (tl := []) (hv := [(0, Value.int .i64 r78.2.2.2.2.2.2.2.2.2.2.2.2.2.2.2.2.2.2), (1, Value.bool (!decide (r78.2.2.2.2.2.2.2.2.2.2.2.2.2.2.2.2.2.2 = 0))), (2, Value.bool (!decide (r78.2.2.2.2.2.2.2.2.2.2.2.2.2.2.2.2.2.2 = 0))), (3, undef), (4, undef), (5, undef), (6, Value.bool true), (7, Value.bool true), (8, undef), (9, undef), (10, undef), (11, undef), (12, undef), (13, Value.bool true), (14, Value.bool true), (15, undef), (16, undef), (17, undef), (18, undef), (19, Value.bool true), (20, Value.bool true), (21, undef), (22, undef), (23, undef), (24, undef), (25, undef), (26, undef), (27, undef), (28, undef), (29, undef), (30, undef), (31, undef), (32, undef), (33, undef), (34, undef), (35, Value.bool true), (36, Value.bool true), (37, undef), (38, undef), (39, undef), (40, undef), (41, undef), (42, undef), (43, undef), (44, undef), (45, Value.bool true)]) E3_88 mixed R3_24_N R3_24_O rfl (pv_cons rfl (pv_cons rfl (pv_cons rfl (pv_cons rfl (pv_cons rfl (pv_cons rfl (pv_cons rfl (pv_cons rfl (pv_cons rfl (pv_cons rfl (pv_cons rfl (pv_cons rfl (pv_cons rfl (pv_cons rfl (pv_cons rfl (pv_cons rfl (pv_cons rfl (pv_cons rfl (pv_cons rfl (pv_cons rfl (pv_cons rfl (pv_cons rfl (pv_cons rfl (pv_cons rfl (pv_cons rfl (pv_cons rfl (pv_cons rfl (pv_cons rfl (pv_cons rfl (pv_cons rfl (pv_cons rfl (pv_cons rfl (pv_cons rfl (pv_cons rfl (pv_cons rfl (pv_cons rfl (pv_cons rfl (pv_cons rfl (pv_cons rfl (pv_cons rfl (pv_cons rfl (pv_cons rfl (pv_cons rfl (pv_cons rfl (pv_cons rfl (pv_cons rfl (pv_nil _)))))))))))))))))))))))))))))))))))))))))))))))
        (ffc (d := 91) (v := .int .i64 r78.2.2.2.2.2.2.2.2.2.2.2.2.2.2.2.2.2.2) (hd_v rfl fun ρ hρ => ⟨rfl, opv_move rfl rfl ((hρ 16 (lmem rfl)).trans h16)⟩) rfl rfl
        (ffc (d := 92) (v := .bool (!decide (r78.2.2.2.2.2.2.2.2.2.2.2.2.2.2.2.2.2.2 = 0))) (hd_v rfl fun ρ hρ => ⟨rfl, opv_neI rfl rfl rfl ((hρ 91 (lmem rfl)).trans rfl) rfl⟩) rfl rfl
        (ffc (d := 93) (v := .bool (!decide (r78.2.2.2.2.2.2.2.2.2.2.2.2.2.2.2.2.2.2 = 0))) (hd_v rfl fun ρ hρ => ⟨rfl, opv_move rfl rfl ((hρ 92 (lmem rfl)).trans rfl)⟩) rfl rfl
        (ffc (d := 94) (v := undef) (hd_s rfl (fun ρ hρ => ⟨_, rfl, .inl ⟨_, ((hρ 93 (lmem rfl)).trans rfl), gq hb92 rfl⟩⟩) rfl) rfl rfl
        (ffc (d := 95) (v := undef) (hd_s rfl (fun ρ hρ => ⟨_, rfl, .inl ⟨_, ((hρ 93 (lmem rfl)).trans rfl), gq hb92 rfl⟩⟩) rfl) rfl rfl
        (ffc (d := 96) (v := undef) (hd_s rfl (fun ρ hρ => ⟨_, rfl, .inl ⟨_, ((hρ 93 (lmem rfl)).trans rfl), gq hb92 rfl⟩⟩) rfl) rfl rfl
        (ffc (d := 97) (v := .bool true) (hd_v rfl fun ρ hρ => ⟨rfl, ov_pickT rfl rfl rfl rfl ((hρ 93 (lmem rfl)).trans rfl) hb92 rfl⟩) rfl rfl
        (ffc (d := 98) (v := .bool true) (hd_v rfl fun ρ hρ => ⟨rfl, opv_move rfl rfl ((hρ 97 (lmem rfl)).trans rfl)⟩) rfl rfl
        (ffc (d := 99) (v := undef) (hd_s rfl (fun ρ hρ => ⟨_, rfl, .inl ⟨_, ((hρ 98 (lmem rfl)).trans rfl), gq rfl rfl⟩⟩) rfl) rfl rfl
        (ffc (d := 100) (v := undef) (hd_s rfl (fun ρ hρ => ⟨_, rfl, .inl ⟨_, ((hρ 98 (lmem rfl)).trans rfl), gq rfl rfl⟩⟩) rfl) rfl rfl
        (ffc (d := 101) (v := undef) (hd_s rfl (fun ρ hρ => ⟨_, rfl, .inl ⟨_, ((hρ 98 (lmem rfl)).trans rfl), gq rfl rfl⟩⟩) rfl) rfl rfl
        (ffc (d := 102) (v := undef) (hd_s rfl (fun ρ hρ => ⟨_, rfl, .inl ⟨_, ((hρ 98 (lmem rfl)).trans rfl), gq rfl rfl⟩⟩) rfl) rfl rfl
        (ffc (d := 103) (v := undef) (hd_s rfl (fun ρ hρ => ⟨_, rfl, .inl ⟨_, ((hρ 98 (lmem rfl)).trans rfl), gq rfl rfl⟩⟩) rfl) rfl rfl
        (ffc (d := 104) (v := .bool true) (hd_v rfl fun ρ hρ => ⟨rfl, ov_pickT rfl rfl rfl rfl ((hρ 98 (lmem rfl)).trans rfl) rfl rfl⟩) rfl rfl
        (ffc (d := 105) (v := .bool true) (hd_v rfl fun ρ hρ => ⟨rfl, opv_move rfl rfl ((hρ 104 (lmem rfl)).trans rfl)⟩) rfl rfl
        (ffc (d := 106) (v := undef) (hd_s rfl (fun ρ hρ => ⟨_, rfl, .inl ⟨_, ((hρ 105 (lmem rfl)).trans rfl), gq rfl rfl⟩⟩) rfl) rfl rfl
        (ffc (d := 107) (v := undef) (hd_s rfl (fun ρ hρ => ⟨_, rfl, .inl ⟨_, ((hρ 105 (lmem rfl)).trans rfl), gq rfl rfl⟩⟩) rfl) rfl rfl
        (ffc (d := 108) (v := undef) (hd_s rfl (fun ρ hρ => ⟨_, rfl, .inl ⟨_, ((hρ 105 (lmem rfl)).trans rfl), gq rfl rfl⟩⟩) rfl) rfl rfl
        (ffc (d := 109) (v := undef) (hd_s rfl (fun ρ hρ => ⟨_, rfl, .inl ⟨_, ((hρ 105 (lmem rfl)).trans rfl), gq rfl rfl⟩⟩) rfl) rfl rfl
        (ffc (d := 110) (v := .bool true) (hd_v rfl fun ρ hρ => ⟨rfl, ov_pickT rfl rfl rfl rfl ((hρ 105 (lmem rfl)).trans rfl) rfl rfl⟩) rfl rfl
        (ffc (d := 111) (v := .bool true) (hd_v rfl fun ρ hρ => ⟨rfl, opv_move rfl rfl ((hρ 110 (lmem rfl)).trans rfl)⟩) rfl rfl
        (ffc (d := 112) (v := undef) (hd_s rfl (fun ρ hρ => ⟨_, rfl, .inl ⟨_, ((hρ 111 (lmem rfl)).trans rfl), gq rfl rfl⟩⟩) rfl) rfl rfl
        (ffc (d := 113) (v := undef) (hd_s rfl (fun ρ hρ => ⟨_, rfl, .inl ⟨_, ((hρ 111 (lmem rfl)).trans rfl), gq rfl rfl⟩⟩) rfl) rfl rfl
        (ffc (d := 114) (v := undef) (hd_s rfl (fun ρ hρ => ⟨_, rfl, .inl ⟨_, ((hρ 111 (lmem rfl)).trans rfl), gq rfl rfl⟩⟩) rfl) rfl rfl
        (ffc (d := 115) (v := undef) (hd_s rfl (fun ρ hρ => ⟨_, rfl, .inl ⟨_, ((hρ 111 (lmem rfl)).trans rfl), gq rfl rfl⟩⟩) rfl) rfl rfl
        (ffc (d := 116) (v := undef) (hd_s rfl (fun ρ hρ => ⟨_, rfl, .inl ⟨_, ((hρ 111 (lmem rfl)).trans rfl), gq rfl rfl⟩⟩) rfl) rfl rfl
        (ffc (d := 117) (v := undef) (hd_s rfl (fun ρ hρ => ⟨_, rfl, .inl ⟨_, ((hρ 111 (lmem rfl)).trans rfl), gq rfl rfl⟩⟩) rfl) rfl rfl
        (ffc (d := 118) (v := undef) (hd_s rfl (fun ρ hρ => ⟨_, rfl, .inl ⟨_, ((hρ 111 (lmem rfl)).trans rfl), gq rfl rfl⟩⟩) rfl) rfl rfl
        (ffc (d := 119) (v := undef) (hd_s rfl (fun ρ hρ => ⟨_, rfl, .inl ⟨_, ((hρ 111 (lmem rfl)).trans rfl), gq rfl rfl⟩⟩) rfl) rfl rfl
        (ffc (d := 120) (v := undef) (hd_s rfl (fun ρ hρ => ⟨_, rfl, .inl ⟨_, ((hρ 111 (lmem rfl)).trans rfl), gq rfl rfl⟩⟩) rfl) rfl rfl
        (ffc (d := 121) (v := undef) (hd_s rfl (fun ρ hρ => ⟨_, rfl, .inl ⟨_, ((hρ 111 (lmem rfl)).trans rfl), gq rfl rfl⟩⟩) rfl) rfl rfl
        (ffc (d := 122) (v := undef) (hd_s rfl (fun ρ hρ => ⟨_, rfl, .inl ⟨_, ((hρ 111 (lmem rfl)).trans rfl), gq rfl rfl⟩⟩) rfl) rfl rfl
        (ffc (d := 123) (v := undef) (hd_s rfl (fun ρ hρ => ⟨_, rfl, .inl ⟨_, ((hρ 111 (lmem rfl)).trans rfl), gq rfl rfl⟩⟩) rfl) rfl rfl
        (ffc (d := 124) (v := undef) (hd_s rfl (fun ρ hρ => ⟨_, rfl, .inl ⟨_, ((hρ 111 (lmem rfl)).trans rfl), gq rfl rfl⟩⟩) rfl) rfl rfl
        (ffc (d := 125) (v := undef) (hd_s rfl (fun ρ hρ => ⟨_, rfl, .inl ⟨_, ((hρ 111 (lmem rfl)).trans rfl), gq rfl rfl⟩⟩) rfl) rfl rfl
        (ffc (d := 126) (v := .bool true) (hd_v rfl fun ρ hρ => ⟨rfl, ov_pickT rfl rfl rfl rfl ((hρ 111 (lmem rfl)).trans rfl) rfl rfl⟩) rfl rfl
        (ffc (d := 127) (v := .bool true) (hd_v rfl fun ρ hρ => ⟨rfl, opv_move rfl rfl ((hρ 126 (lmem rfl)).trans rfl)⟩) rfl rfl
        (ffc (d := 128) (v := undef) (hd_s rfl (fun ρ hρ => ⟨_, rfl, .inl ⟨_, ((hρ 127 (lmem rfl)).trans rfl), gq rfl rfl⟩⟩) rfl) rfl rfl
        (ffc (d := 129) (v := undef) (hd_s rfl (fun ρ hρ => ⟨_, rfl, .inl ⟨_, ((hρ 127 (lmem rfl)).trans rfl), gq rfl rfl⟩⟩) rfl) rfl rfl
        (ffc (d := 130) (v := undef) (hd_s rfl (fun ρ hρ => ⟨_, rfl, .inl ⟨_, ((hρ 127 (lmem rfl)).trans rfl), gq rfl rfl⟩⟩) rfl) rfl rfl
        (ffc (d := 131) (v := undef) (hd_s rfl (fun ρ hρ => ⟨_, rfl, .inl ⟨_, ((hρ 127 (lmem rfl)).trans rfl), gq rfl rfl⟩⟩) rfl) rfl rfl
        (ffc (d := 132) (v := undef) (hd_s rfl (fun ρ hρ => ⟨_, rfl, .inl ⟨_, ((hρ 127 (lmem rfl)).trans rfl), gq rfl rfl⟩⟩) rfl) rfl rfl
        (ffc (d := 133) (v := undef) (hd_s rfl (fun ρ hρ => ⟨_, rfl, .inl ⟨_, ((hρ 127 (lmem rfl)).trans rfl), gq rfl rfl⟩⟩) rfl) rfl rfl
        (ffc (d := 134) (v := undef) (hd_s rfl (fun ρ hρ => ⟨_, rfl, .inl ⟨_, ((hρ 127 (lmem rfl)).trans rfl), gq rfl rfl⟩⟩) rfl) rfl rfl
        (ffc (d := 135) (v := undef) (hd_s rfl (fun ρ hρ => ⟨_, rfl, .inl ⟨_, ((hρ 127 (lmem rfl)).trans rfl), gq rfl rfl⟩⟩) rfl) rfl rfl
        (ffc (d := 136) (v := .bool true) (hd_v rfl fun ρ hρ => ⟨rfl, ov_pickT rfl rfl rfl rfl ((hρ 127 (lmem rfl)).trans rfl) rfl rfl⟩) rfl rfl
        ffn)))))))))))))))))))))))))))))))))))))))))))))) ?_
      refine lt_end ?_
      refine ago_condE  E3_89 rfl rfl (fun h => ?_) (fun h => tf h)
      refine ago_seqE E3_90 ?_
      refine ago_regE E3_91 (l := [0]) rfl ?_
      refine lk (dt := some 6) R3_25_N rfl rfl rfl (opv_assign rfl rfl rfl) ?_
      refine aops_nil ?_
      exact ago_retE E3_92 (r := false) (ares_1 rfl (oneT rfl)) rfl H
    · replace H := cnd_f H hb92
      obtain ⟨q95, l96, c97, n94, hv98, hn99, H⟩ := H
      rcases Bool.eq_false_or_eq_true (decide (0 < n94)) with hb100 | hb100
      · replace H := cnd_t H hb100
        refine ago_drawH (p := [0, 1, 2, 3, 4, 5, 6, 7, 8, 9, 10, 11, 12, 13, 14, 15, 16, 17, 18, 19, 20, 21, 22, 23, 24, 25, 26, 27, 28, 29, 30, 31, 32, 33, 34, 35, 36, 37, 38, 39, 40, 41, 42, 43, 44, 45]) (tl := []) (hv := [(0, Value.int .i64 r78.2.2.2.2.2.2.2.2.2.2.2.2.2.2.2.2.2.2), (1, Value.bool (!decide (r78.2.2.2.2.2.2.2.2.2.2.2.2.2.2.2.2.2.2 = 0))), (2, Value.bool (!decide (r78.2.2.2.2.2.2.2.2.2.2.2.2.2.2.2.2.2.2 = 0))), (3, r78.2.2.2.2.2.2.2.2.2.2.2.2.2.2.2.2.1), (4, Value.int .i64 n94), (5, Value.bool (decide (0 < n94))), (6, Value.bool (decide (0 < n94))), (7, Value.bool (decide (0 < n94))), (8, undef), (9, undef), (10, undef), (11, undef), (12, undef), (13, Value.bool true), (14, Value.bool true), (15, undef), (16, undef), (17, undef), (18, undef), (19, Value.bool true), (20, Value.bool true), (21, undef), (22, undef), (23, undef), (24, undef), (25, undef), (26, undef), (27, undef), (28, undef), (29, undef), (30, undef), (31, undef), (32, undef), (33, undef), (34, undef), (35, Value.bool true), (36, Value.bool true), (37, undef), (38, undef), (39, undef), (40, undef), (41, undef), (42, undef), (43, undef), (44, undef), (45, Value.bool true)]) E3_88 mixed R3_24_N R3_24_O rfl (pv_cons rfl (pv_cons rfl (pv_cons rfl (pv_cons rfl (pv_cons rfl (pv_cons rfl (pv_cons rfl (pv_cons rfl (pv_cons rfl (pv_cons rfl (pv_cons rfl (pv_cons rfl (pv_cons rfl (pv_cons rfl (pv_cons rfl (pv_cons rfl (pv_cons rfl (pv_cons rfl (pv_cons rfl (pv_cons rfl (pv_cons rfl (pv_cons rfl (pv_cons rfl (pv_cons rfl (pv_cons rfl (pv_cons rfl (pv_cons rfl (pv_cons rfl (pv_cons rfl (pv_cons rfl (pv_cons rfl (pv_cons rfl (pv_cons rfl (pv_cons rfl (pv_cons rfl (pv_cons rfl (pv_cons rfl (pv_cons rfl (pv_cons rfl (pv_cons rfl (pv_cons rfl (pv_cons rfl (pv_cons rfl (pv_cons rfl (pv_cons rfl (pv_cons rfl (pv_nil _)))))))))))))))))))))))))))))))))))))))))))))))
          (ffc (d := 91) (v := .int .i64 r78.2.2.2.2.2.2.2.2.2.2.2.2.2.2.2.2.2.2) (hd_v rfl fun ρ hρ => ⟨rfl, opv_move rfl rfl ((hρ 16 (lmem rfl)).trans h16)⟩) rfl rfl
          (ffc (d := 92) (v := .bool (!decide (r78.2.2.2.2.2.2.2.2.2.2.2.2.2.2.2.2.2.2 = 0))) (hd_v rfl fun ρ hρ => ⟨rfl, opv_neI rfl rfl rfl ((hρ 91 (lmem rfl)).trans rfl) rfl⟩) rfl rfl
          (ffc (d := 93) (v := .bool (!decide (r78.2.2.2.2.2.2.2.2.2.2.2.2.2.2.2.2.2.2 = 0))) (hd_v rfl fun ρ hρ => ⟨rfl, opv_move rfl rfl ((hρ 92 (lmem rfl)).trans rfl)⟩) rfl rfl
          (ffc (d := 94) (v := r78.2.2.2.2.2.2.2.2.2.2.2.2.2.2.2.2.1) (hd_v rfl fun ρ hρ => ⟨⟨_, rfl, .inl ⟨_, ((hρ 93 (lmem rfl)).trans rfl), gq hb92 rfl⟩⟩, opv_move rfl rfl ((hρ 14 (lmem rfl)).trans h14)⟩) rfl rfl
          (ffc (d := 95) (v := .int .i64 n94) (hd_v rfl fun ρ hρ => ⟨⟨_, rfl, .inl ⟨_, ((hρ 93 (lmem rfl)).trans rfl), gq hb92 rfl⟩⟩, ov_len rfl rfl rfl underlying34 ((hρ 94 (lmem rfl)).trans rfl) hv98 hn99⟩) rfl rfl
          (ffc (d := 96) (v := .bool (decide (0 < n94))) (hd_v rfl fun ρ hρ => ⟨⟨_, rfl, .inl ⟨_, ((hρ 93 (lmem rfl)).trans rfl), gq hb92 rfl⟩⟩, opv_gt rfl rfl rfl ((hρ 95 (lmem rfl)).trans rfl) rfl⟩) rfl rfl
          (ffc (d := 97) (v := .bool (decide (0 < n94))) (hd_v rfl fun ρ hρ => ⟨rfl, ov_pickF rfl rfl rfl rfl ((hρ 93 (lmem rfl)).trans rfl) hb92 ((hρ 96 (lmem rfl)).trans rfl)⟩) rfl rfl
          (ffc (d := 98) (v := .bool (decide (0 < n94))) (hd_v rfl fun ρ hρ => ⟨rfl, opv_move rfl rfl ((hρ 97 (lmem rfl)).trans rfl)⟩) rfl rfl
          (ffc (d := 99) (v := undef) (hd_s rfl (fun ρ hρ => ⟨_, rfl, .inl ⟨_, ((hρ 98 (lmem rfl)).trans rfl), gq hb100 rfl⟩⟩) rfl) rfl rfl
          (ffc (d := 100) (v := undef) (hd_s rfl (fun ρ hρ => ⟨_, rfl, .inl ⟨_, ((hρ 98 (lmem rfl)).trans rfl), gq hb100 rfl⟩⟩) rfl) rfl rfl
          (ffc (d := 101) (v := undef) (hd_s rfl (fun ρ hρ => ⟨_, rfl, .inl ⟨_, ((hρ 98 (lmem rfl)).trans rfl), gq hb100 rfl⟩⟩) rfl) rfl rfl
          (ffc (d := 102) (v := undef) (hd_s rfl (fun ρ hρ => ⟨_, rfl, .inl ⟨_, ((hρ 98 (lmem rfl)).trans rfl), gq hb100 rfl⟩⟩) rfl) rfl rfl
          (ffc (d := 103) (v := undef) (hd_s rfl (fun ρ hρ => ⟨_, rfl, .inl ⟨_, ((hρ 98 (lmem rfl)).trans rfl), gq hb100 rfl⟩⟩) rfl) rfl rfl
          (ffc (d := 104) (v := .bool true) (hd_v rfl fun ρ hρ => ⟨rfl, ov_pickT rfl rfl rfl rfl ((hρ 98 (lmem rfl)).trans rfl) hb100 rfl⟩) rfl rfl
          (ffc (d := 105) (v := .bool true) (hd_v rfl fun ρ hρ => ⟨rfl, opv_move rfl rfl ((hρ 104 (lmem rfl)).trans rfl)⟩) rfl rfl
          (ffc (d := 106) (v := undef) (hd_s rfl (fun ρ hρ => ⟨_, rfl, .inl ⟨_, ((hρ 105 (lmem rfl)).trans rfl), gq rfl rfl⟩⟩) rfl) rfl rfl
          (ffc (d := 107) (v := undef) (hd_s rfl (fun ρ hρ => ⟨_, rfl, .inl ⟨_, ((hρ 105 (lmem rfl)).trans rfl), gq rfl rfl⟩⟩) rfl) rfl rfl
          (ffc (d := 108) (v := undef) (hd_s rfl (fun ρ hρ => ⟨_, rfl, .inl ⟨_, ((hρ 105 (lmem rfl)).trans rfl), gq rfl rfl⟩⟩) rfl) rfl rfl
          (ffc (d := 109) (v := undef) (hd_s rfl (fun ρ hρ => ⟨_, rfl, .inl ⟨_, ((hρ 105 (lmem rfl)).trans rfl), gq rfl rfl⟩⟩) rfl) rfl rfl
          (ffc (d := 110) (v := .bool true) (hd_v rfl fun ρ hρ => ⟨rfl, ov_pickT rfl rfl rfl rfl ((hρ 105 (lmem rfl)).trans rfl) rfl rfl⟩) rfl rfl
          (ffc (d := 111) (v := .bool true) (hd_v rfl fun ρ hρ => ⟨rfl, opv_move rfl rfl ((hρ 110 (lmem rfl)).trans rfl)⟩) rfl rfl
          (ffc (d := 112) (v := undef) (hd_s rfl (fun ρ hρ => ⟨_, rfl, .inl ⟨_, ((hρ 111 (lmem rfl)).trans rfl), gq rfl rfl⟩⟩) rfl) rfl rfl
          (ffc (d := 113) (v := undef) (hd_s rfl (fun ρ hρ => ⟨_, rfl, .inl ⟨_, ((hρ 111 (lmem rfl)).trans rfl), gq rfl rfl⟩⟩) rfl) rfl rfl
          (ffc (d := 114) (v := undef) (hd_s rfl (fun ρ hρ => ⟨_, rfl, .inl ⟨_, ((hρ 111 (lmem rfl)).trans rfl), gq rfl rfl⟩⟩) rfl) rfl rfl
          (ffc (d := 115) (v := undef) (hd_s rfl (fun ρ hρ => ⟨_, rfl, .inl ⟨_, ((hρ 111 (lmem rfl)).trans rfl), gq rfl rfl⟩⟩) rfl) rfl rfl
          (ffc (d := 116) (v := undef) (hd_s rfl (fun ρ hρ => ⟨_, rfl, .inl ⟨_, ((hρ 111 (lmem rfl)).trans rfl), gq rfl rfl⟩⟩) rfl) rfl rfl
          (ffc (d := 117) (v := undef) (hd_s rfl (fun ρ hρ => ⟨_, rfl, .inl ⟨_, ((hρ 111 (lmem rfl)).trans rfl), gq rfl rfl⟩⟩) rfl) rfl rfl
          (ffc (d := 118) (v := undef) (hd_s rfl (fun ρ hρ => ⟨_, rfl, .inl ⟨_, ((hρ 111 (lmem rfl)).trans rfl), gq rfl rfl⟩⟩) rfl) rfl rfl
          (ffc (d := 119) (v := undef) (hd_s rfl (fun ρ hρ => ⟨_, rfl, .inl ⟨_, ((hρ 111 (lmem rfl)).trans rfl), gq rfl rfl⟩⟩) rfl) rfl rfl
          (ffc (d := 120) (v := undef) (hd_s rfl (fun ρ hρ => ⟨_, rfl, .inl ⟨_, ((hρ 111 (lmem rfl)).trans rfl), gq rfl rfl⟩⟩) rfl) rfl rfl
          (ffc (d := 121) (v := undef) (hd_s rfl (fun ρ hρ => ⟨_, rfl, .inl ⟨_, ((hρ 111 (lmem rfl)).trans rfl), gq rfl rfl⟩⟩) rfl) rfl rfl
          (ffc (d := 122) (v := undef) (hd_s rfl (fun ρ hρ => ⟨_, rfl, .inl ⟨_, ((hρ 111 (lmem rfl)).trans rfl), gq rfl rfl⟩⟩) rfl) rfl rfl
          (ffc (d := 123) (v := undef) (hd_s rfl (fun ρ hρ => ⟨_, rfl, .inl ⟨_, ((hρ 111 (lmem rfl)).trans rfl), gq rfl rfl⟩⟩) rfl) rfl rfl
          (ffc (d := 124) (v := undef) (hd_s rfl (fun ρ hρ => ⟨_, rfl, .inl ⟨_, ((hρ 111 (lmem rfl)).trans rfl), gq rfl rfl⟩⟩) rfl) rfl rfl
          (ffc (d := 125) (v := undef) (hd_s rfl (fun ρ hρ => ⟨_, rfl, .inl ⟨_, ((hρ 111 (lmem rfl)).trans rfl), gq rfl rfl⟩⟩) rfl) rfl rfl
          (ffc (d := 126) (v := .bool true) (hd_v rfl fun ρ hρ => ⟨rfl, ov_pickT rfl rfl rfl rfl ((hρ 111 (lmem rfl)).trans rfl) rfl rfl⟩) rfl rfl
          (ffc (d := 127) (v := .bool true) (hd_v rfl fun ρ hρ => ⟨rfl, opv_move rfl rfl ((hρ 126 (lmem rfl)).trans rfl)⟩) rfl rfl
          (ffc (d := 128) (v := undef) (hd_s rfl (fun ρ hρ => ⟨_, rfl, .inl ⟨_, ((hρ 127 (lmem rfl)).trans rfl), gq rfl rfl⟩⟩) rfl) rfl rfl
          (ffc (d := 129) (v := undef) (hd_s rfl (fun ρ hρ => ⟨_, rfl, .inl ⟨_, ((hρ 127 (lmem rfl)).trans rfl), gq rfl rfl⟩⟩) rfl) rfl rfl
          (ffc (d := 130) (v := undef) (hd_s rfl (fun ρ hρ => ⟨_, rfl, .inl ⟨_, ((hρ 127 (lmem rfl)).trans rfl), gq rfl rfl⟩⟩) rfl) rfl rfl
          (ffc (d := 131) (v := undef) (hd_s rfl (fun ρ hρ => ⟨_, rfl, .inl ⟨_, ((hρ 127 (lmem rfl)).trans rfl), gq rfl rfl⟩⟩) rfl) rfl rfl
          (ffc (d := 132) (v := undef) (hd_s rfl (fun ρ hρ => ⟨_, rfl, .inl ⟨_, ((hρ 127 (lmem rfl)).trans rfl), gq rfl rfl⟩⟩) rfl) rfl rfl
          (ffc (d := 133) (v := undef) (hd_s rfl (fun ρ hρ => ⟨_, rfl, .inl ⟨_, ((hρ 127 (lmem rfl)).trans rfl), gq rfl rfl⟩⟩) rfl) rfl rfl
          (ffc (d := 134) (v := undef) (hd_s rfl (fun ρ hρ => ⟨_, rfl, .inl ⟨_, ((hρ 127 (lmem rfl)).trans rfl), gq rfl rfl⟩⟩) rfl) rfl rfl
          (ffc (d := 135) (v := undef) (hd_s rfl (fun ρ hρ => ⟨_, rfl, .inl ⟨_, ((hρ 127 (lmem rfl)).trans rfl), gq rfl rfl⟩⟩) rfl) rfl rfl
          (ffc (d := 136) (v := .bool true) (hd_v rfl fun ρ hρ => ⟨rfl, ov_pickT rfl rfl rfl rfl ((hρ 127 (lmem rfl)).trans rfl) rfl rfl⟩) rfl rfl
          ffn)))))))))))))))))))))))))))))))))))))))))))))) ?_
        refine lt_end ?_
        refine ago_condE  E3_89 rfl rfl (fun h => ?_) (fun h => tf h)
        refine ago_seqE E3_90 ?_
        refine ago_regE E3_91 (l := [0]) rfl ?_
        refine lk (dt := some 6) R3_25_N rfl rfl rfl (opv_assign rfl rfl rfl) ?_
        refine aops_nil ?_
        exact ago_retE E3_92 (r := false) (ares_1 rfl (oneT rfl)) rfl H
      · replace H := cnd_f H hb100
        rcases Bool.eq_false_or_eq_true (!decide (r78.2.2.2.2.2.2.2.2.2.2.2.2.2.2.2.2.2.1 = (IntKind.u64.wrap ((IntKind.u64.wrap i_12) + 2)))) with hb102 | hb102
        · replace H := cnd_t H hb102
          refine ago_drawH (p := [0, 1, 2, 3, 4, 5, 6, 7, 8, 9, 10, 11, 12, 13, 14, 15, 16, 17, 18, 19, 20, 21, 22, 23, 24, 25, 26, 27, 28, 29, 30, 31, 32, 33, 34, 35, 36, 37, 38, 39, 40, 41, 42, 43, 44, 45]) (tl := []) (hv := [(0, Value.int .i64 r78.2.2.2.2.2.2.2.2.2.2.2.2.2.2.2.2.2.2), (1, Value.bool (!decide (r78.2.2.2.2.2.2.2.2.2.2.2.2.2.2.2.2.2.2 = 0))), (2, Value.bool (!decide (r78.2.2.2.2.2.2.2.2.2.2.2.2.2.2.2.2.2.2 = 0))), (3, r78.2.2.2.2.2.2.2.2.2.2.2.2.2.2.2.2.1), (4, Value.int .i64 n94), (5, Value.bool (decide (0 < n94))), (6, Value.bool (decide (0 < n94))), (7, Value.bool (decide (0 < n94))), (8, Value.int .u64 r78.2.2.2.2.2.2.2.2.2.2.2.2.2.2.2.2.2.1), (9, Value.int .i64 i_12), (10, Value.int .u64 (IntKind.u64.wrap i_12)), (11, Value.int .u64 (IntKind.u64.wrap ((IntKind.u64.wrap i_12) + 2))), (12, Value.bool (!decide (r78.2.2.2.2.2.2.2.2.2.2.2.2.2.2.2.2.2.1 = (IntKind.u64.wrap ((IntKind.u64.wrap i_12) + 2))))), (13, Value.bool (!decide (r78.2.2.2.2.2.2.2.2.2.2.2.2.2.2.2.2.2.1 = (IntKind.u64.wrap ((IntKind.u64.wrap i_12) + 2))))), (14, Value.bool (!decide (r78.2.2.2.2.2.2.2.2.2.2.2.2.2.2.2.2.2.1 = (IntKind.u64.wrap ((IntKind.u64.wrap i_12) + 2))))), (15, undef), (16, undef), (17, undef), (18, undef), (19, Value.bool true), (20, Value.bool true), (21, undef), (22, undef), (23, undef), (24, undef), (25, undef), (26, undef), (27, undef), (28, undef), (29, undef), (30, undef), (31, undef), (32, undef), (33, undef), (34, undef), (35, Value.bool true), (36, Value.bool true), (37, undef), (38, undef), (39, undef), (40, undef), (41, undef), (42, undef), (43, undef), (44, undef), (45, Value.bool true)]) E3_88 mixed R3_24_N R3_24_O rfl (pv_cons rfl (pv_cons rfl (pv_cons rfl (pv_cons rfl (pv_cons rfl (pv_cons rfl (pv_cons rfl (pv_cons rfl (pv_cons rfl (pv_cons rfl (pv_cons rfl (pv_cons rfl (pv_cons rfl (pv_cons rfl (pv_cons rfl (pv_cons rfl (pv_cons rfl (pv_cons rfl (pv_cons rfl (pv_cons rfl (pv_cons rfl (pv_cons rfl (pv_cons rfl (pv_cons rfl (pv_cons rfl (pv_cons rfl (pv_cons rfl (pv_cons rfl (pv_cons rfl (pv_cons rfl (pv_cons rfl (pv_cons rfl (pv_cons rfl (pv_cons rfl (pv_cons rfl (pv_cons rfl (pv_cons rfl (pv_cons rfl (pv_cons rfl (pv_cons rfl (pv_cons rfl (pv_cons rfl (pv_cons rfl (pv_cons rfl (pv_cons rfl (pv_cons rfl (pv_nil _)))))))))))))))))))))))))))))))))))))))))))))))
            (ffc (d := 91) (v := .int .i64 r78.2.2.2.2.2.2.2.2.2.2.2.2.2.2.2.2.2.2) (hd_v rfl fun ρ hρ => ⟨rfl, opv_move rfl rfl ((hρ 16 (lmem rfl)).trans h16)⟩) rfl rfl
            (ffc (d := 92) (v := .bool (!decide (r78.2.2.2.2.2.2.2.2.2.2.2.2.2.2.2.2.2.2 = 0))) (hd_v rfl fun ρ hρ => ⟨rfl, opv_neI rfl rfl rfl ((hρ 91 (lmem rfl)).trans rfl) rfl⟩) rfl rfl
            (ffc (d := 93) (v := .bool (!decide (r78.2.2.2.2.2.2.2.2.2.2.2.2.2.2.2.2.2.2 = 0))) (hd_v rfl fun ρ hρ => ⟨rfl, opv_move rfl rfl ((hρ 92 (lmem rfl)).trans rfl)⟩) rfl rfl
            (ffc (d := 94) (v := r78.2.2.2.2.2.2.2.2.2.2.2.2.2.2.2.2.1) (hd_v rfl fun ρ hρ => ⟨⟨_, rfl, .inl ⟨_, ((hρ 93 (lmem rfl)).trans rfl), gq hb92 rfl⟩⟩, opv_move rfl rfl ((hρ 14 (lmem rfl)).trans h14)⟩) rfl rfl
            (ffc (d := 95) (v := .int .i64 n94) (hd_v rfl fun ρ hρ => ⟨⟨_, rfl, .inl ⟨_, ((hρ 93 (lmem rfl)).trans rfl), gq hb92 rfl⟩⟩, ov_len rfl rfl rfl underlying34 ((hρ 94 (lmem rfl)).trans rfl) hv98 hn99⟩) rfl rfl
            (ffc (d := 96) (v := .bool (decide (0 < n94))) (hd_v rfl fun ρ hρ => ⟨⟨_, rfl, .inl ⟨_, ((hρ 93 (lmem rfl)).trans rfl), gq hb92 rfl⟩⟩, opv_gt rfl rfl rfl ((hρ 95 (lmem rfl)).trans rfl) rfl⟩) rfl rfl
            (ffc (d := 97) (v := .bool (decide (0 < n94))) (hd_v rfl fun ρ hρ => ⟨rfl, ov_pickF rfl rfl rfl rfl ((hρ 93 (lmem rfl)).trans rfl) hb92 ((hρ 96 (lmem rfl)).trans rfl)⟩) rfl rfl
            (ffc (d := 98) (v := .bool (decide (0 < n94))) (hd_v rfl fun ρ hρ => ⟨rfl, opv_move rfl rfl ((hρ 97 (lmem rfl)).trans rfl)⟩) rfl rfl
            (ffc (d := 99) (v := .int .u64 r78.2.2.2.2.2.2.2.2.2.2.2.2.2.2.2.2.2.1) (hd_v rfl fun ρ hρ => ⟨⟨_, rfl, .inl ⟨_, ((hρ 98 (lmem rfl)).trans rfl), gq hb100 rfl⟩⟩, opv_move rfl rfl ((hρ 15 (lmem rfl)).trans h15)⟩) rfl rfl
            (ffc (d := 100) (v := .int .i64 i_12) (hd_v rfl fun ρ hρ => ⟨⟨_, rfl, .inl ⟨_, ((hρ 98 (lmem rfl)).trans rfl), gq hb100 rfl⟩⟩, opv_move rfl rfl ((hρ 12 (lmem rfl)).trans h12)⟩) rfl rfl
            (ffc (d := 101) (v := .int .u64 (IntKind.u64.wrap i_12)) (hd_v rfl fun ρ hρ => ⟨⟨_, rfl, .inl ⟨_, ((hρ 98 (lmem rfl)).trans rfl), gq hb100 rfl⟩⟩, opv_conv rfl rfl underlying3 underlying24 ((hρ 100 (lmem rfl)).trans rfl)⟩) rfl rfl
            (ffc (d := 102) (v := .int .u64 (IntKind.u64.wrap ((IntKind.u64.wrap i_12) + 2))) (hd_v rfl fun ρ hρ => ⟨⟨_, rfl, .inl ⟨_, ((hρ 98 (lmem rfl)).trans rfl), gq hb100 rfl⟩⟩, opv_add rfl rfl rfl ((hρ 101 (lmem rfl)).trans rfl) rfl⟩) rfl rfl
            (ffc (d := 103) (v := .bool (!decide (r78.2.2.2.2.2.2.2.2.2.2.2.2.2.2.2.2.2.1 = (IntKind.u64.wrap ((IntKind.u64.wrap i_12) + 2))))) (hd_v rfl fun ρ hρ => ⟨⟨_, rfl, .inl ⟨_, ((hρ 98 (lmem rfl)).trans rfl), gq hb100 rfl⟩⟩, opv_neI rfl rfl rfl ((hρ 99 (lmem rfl)).trans rfl) ((hρ 102 (lmem rfl)).trans rfl)⟩) rfl rfl
            (ffc (d := 104) (v := .bool (!decide (r78.2.2.2.2.2.2.2.2.2.2.2.2.2.2.2.2.2.1 = (IntKind.u64.wrap ((IntKind.u64.wrap i_12) + 2))))) (hd_v rfl fun ρ hρ => ⟨rfl, ov_pickF rfl rfl rfl rfl ((hρ 98 (lmem rfl)).trans rfl) hb100 ((hρ 103 (lmem rfl)).trans rfl)⟩) rfl rfl
            (ffc (d := 105) (v := .bool (!decide (r78.2.2.2.2.2.2.2.2.2.2.2.2.2.2.2.2.2.1 = (IntKind.u64.wrap ((IntKind.u64.wrap i_12) + 2))))) (hd_v rfl fun ρ hρ => ⟨rfl, opv_move rfl rfl ((hρ 104 (lmem rfl)).trans rfl)⟩) rfl rfl
            (ffc (d := 106) (v := undef) (hd_s rfl (fun ρ hρ => ⟨_, rfl, .inl ⟨_, ((hρ 105 (lmem rfl)).trans rfl), gq hb102 rfl⟩⟩) rfl) rfl rfl
            (ffc (d := 107) (v := undef) (hd_s rfl (fun ρ hρ => ⟨_, rfl, .inl ⟨_, ((hρ 105 (lmem rfl)).trans rfl), gq hb102 rfl⟩⟩) rfl) rfl rfl
            (ffc (d := 108) (v := undef) (hd_s rfl (fun ρ hρ => ⟨_, rfl, .inl ⟨_, ((hρ 105 (lmem rfl)).trans rfl), gq hb102 rfl⟩⟩) rfl) rfl rfl
            (ffc (d := 109) (v := undef) (hd_s rfl (fun ρ hρ => ⟨_, rfl, .inl ⟨_, ((hρ 105 (lmem rfl)).trans rfl), gq hb102 rfl⟩⟩) rfl) rfl rfl
            (ffc (d := 110) (v := .bool true) (hd_v rfl fun ρ hρ => ⟨rfl, ov_pickT rfl rfl rfl rfl ((hρ 105 (lmem rfl)).trans rfl) hb102 rfl⟩) rfl rfl
            (ffc (d := 111) (v := .bool true) (hd_v rfl fun ρ hρ => ⟨rfl, opv_move rfl rfl ((hρ 110 (lmem rfl)).trans rfl)⟩) rfl rfl
            (ffc (d := 112) (v := undef) (hd_s rfl (fun ρ hρ => ⟨_, rfl, .inl ⟨_, ((hρ 111 (lmem rfl)).trans rfl), gq rfl rfl⟩⟩) rfl) rfl rfl
            (ffc (d := 113) (v := undef) (hd_s rfl (fun ρ hρ => ⟨_, rfl, .inl ⟨_, ((hρ 111 (lmem rfl)).trans rfl), gq rfl rfl⟩⟩) rfl) rfl rfl
            (ffc (d := 114) (v := undef) (hd_s rfl (fun ρ hρ => ⟨_, rfl, .inl ⟨_, ((hρ 111 (lmem rfl)).trans rfl), gq rfl rfl⟩⟩) rfl) rfl rfl
            (ffc (d := 115) (v := undef) (hd_s rfl (fun ρ hρ => ⟨_, rfl, .inl ⟨_, ((hρ 111 (lmem rfl)).trans rfl), gq rfl rfl⟩⟩) rfl) rfl rfl
            (ffc (d := 116) (v := undef) (hd_s rfl (fun ρ hρ => ⟨_, rfl, .inl ⟨_, ((hρ 111 (lmem rfl)).trans rfl), gq rfl rfl⟩⟩) rfl) rfl rfl
            (ffc (d := 117) (v := undef) (hd_s rfl (fun ρ hρ => ⟨_, rfl, .inl ⟨_, ((hρ 111 (lmem rfl)).trans rfl), gq rfl rfl⟩⟩) rfl) rfl rfl
            (ffc (d := 118) (v := undef) (hd_s rfl (fun ρ hρ => ⟨_, rfl, .inl ⟨_, ((hρ 111 (lmem rfl)).trans rfl), gq rfl rfl⟩⟩) rfl) rfl rfl
            (ffc (d := 119) (v := undef) (hd_s rfl (fun ρ hρ => ⟨_, rfl, .inl ⟨_, ((hρ 111 (lmem rfl)).trans rfl), gq rfl rfl⟩⟩) rfl) rfl rfl
            (ffc (d := 120) (v := undef) (hd_s rfl (fun ρ hρ => ⟨_, rfl, .inl ⟨_, ((hρ 111 (lmem rfl)).trans rfl), gq rfl rfl⟩⟩) rfl) rfl rfl
            (ffc (d := 121) (v := undef) (hd_s rfl (fun ρ hρ => ⟨_, rfl, .inl ⟨_, ((hρ 111 (lmem rfl)).trans rfl), gq rfl rfl⟩⟩) rfl) rfl rfl
            (ffc (d := 122) (v := undef) (hd_s rfl (fun ρ hρ => ⟨_, rfl, .inl ⟨_, ((hρ 111 (lmem rfl)).trans rfl), gq rfl rfl⟩⟩) rfl) rfl rfl
            (ffc (d := 123) (v := undef) (hd_s rfl (fun ρ hρ => ⟨_, rfl, .inl ⟨_, ((hρ 111 (lmem rfl)).trans rfl), gq rfl rfl⟩⟩) rfl) rfl rfl
            (ffc (d := 124) (v := undef) (hd_s rfl (fun ρ hρ => ⟨_, rfl, .inl ⟨_, ((hρ 111 (lmem rfl)).trans rfl), gq rfl rfl⟩⟩) rfl) rfl rfl
            (ffc (d := 125) (v := undef) (hd_s rfl (fun ρ hρ => ⟨_, rfl, .inl ⟨_, ((hρ 111 (lmem rfl)).trans rfl), gq rfl rfl⟩⟩) rfl) rfl rfl
            (ffc (d := 126) (v := .bool true) (hd_v rfl fun ρ hρ => ⟨rfl, ov_pickT rfl rfl rfl rfl ((hρ 111 (lmem rfl)).trans rfl) rfl rfl⟩) rfl rfl
            (ffc (d := 127) (v := .bool true) (hd_v rfl fun ρ hρ => ⟨rfl, opv_move rfl rfl ((hρ 126 (lmem rfl)).trans rfl)⟩) rfl rfl
            (ffc (d := 128) (v := undef) (hd_s rfl (fun ρ hρ => ⟨_, rfl, .inl ⟨_, ((hρ 127 (lmem rfl)).trans rfl), gq rfl rfl⟩⟩) rfl) rfl rfl
            (ffc (d := 129) (v := undef) (hd_s rfl (fun ρ hρ => ⟨_, rfl, .inl ⟨_, ((hρ 127 (lmem rfl)).trans rfl), gq rfl rfl⟩⟩) rfl) rfl rfl
            (ffc (d := 130) (v := undef) (hd_s rfl (fun ρ hρ => ⟨_, rfl, .inl ⟨_, ((hρ 127 (lmem rfl)).trans rfl), gq rfl rfl⟩⟩) rfl) rfl rfl
            (ffc (d := 131) (v := undef) (hd_s rfl (fun ρ hρ => ⟨_, rfl, .inl ⟨_, ((hρ 127 (lmem rfl)).trans rfl), gq rfl rfl⟩⟩) rfl) rfl rfl
            (ffc (d := 132) (v := undef) (hd_s rfl (fun ρ hρ => ⟨_, rfl, .inl ⟨_, ((hρ 127 (lmem rfl)).trans rfl), gq rfl rfl⟩⟩) rfl) rfl rfl
            (ffc (d := 133) (v := undef) (hd_s rfl (fun ρ hρ => ⟨_, rfl, .inl ⟨_, ((hρ 127 (lmem rfl)).trans rfl), gq rfl rfl⟩⟩) rfl) rfl rfl
            (ffc (d := 134) (v := undef) (hd_s rfl (fun ρ hρ => ⟨_, rfl, .inl ⟨_, ((hρ 127 (lmem rfl)).trans rfl), gq rfl rfl⟩⟩) rfl) rfl rfl
            (ffc (d := 135) (v := undef) (hd_s rfl (fun ρ hρ => ⟨_, rfl, .inl ⟨_, ((hρ 127 (lmem rfl)).trans rfl), gq rfl rfl⟩⟩) rfl) rfl rfl
            (ffc (d := 136) (v := .bool true) (hd_v rfl fun ρ hρ => ⟨rfl, ov_pickT rfl rfl rfl rfl ((hρ 127 (lmem rfl)).trans rfl) rfl rfl⟩) rfl rfl
            ffn)))))))))))))))))))))))))))))))))))))))))))))) ?_
          refine lt_end ?_
          refine ago_condE  E3_89 rfl rfl (fun h => ?_) (fun h => tf h)
          refine ago_seqE E3_90 ?_
          refine ago_regE E3_91 (l := [0]) rfl ?_
          refine lk (dt := some 6) R3_25_N rfl rfl rfl (opv_assign rfl rfl rfl) ?_
          refine aops_nil ?_
          exact ago_retE E3_92 (r := false) (ares_1 rfl (oneT rfl)) rfl H
        · replace H := cnd_f H hb102
          obtain ⟨b105, i106, p104, hp107, hv108, H⟩ := H
          obtain ⟨b109, i110, x112, hp111, hg113, H⟩ := H
          rcases Bool.eq_false_or_eq_true (!decide (x112 = r78.2.2.2.2.2.2.2.2.2.2.2.2.2.2.2.2.2.1)) with hb114 | hb114
          · replace H := cnd_t H hb114
            refine ago_drawH (p := [0, 1, 2, 3, 4, 5, 6, 7, 8, 9, 10, 11, 12, 13, 14, 15, 16, 17, 18, 19, 20, 21, 22, 23, 24, 25, 26, 27, 28, 29, 30, 31, 32, 33, 34, 35, 36, 37, 38, 39, 40, 41, 42, 43, 44, 45]) (tl := []) (hv := [(0, Value.int .i64 r78.2.2.2.2.2.2.2.2.2.2.2.2.2.2.2.2.2.2), (1, Value.bool (!decide (r78.2.2.2.2.2.2.2.2.2.2.2.2.2.2.2.2.2.2 = 0))), (2, Value.bool (!decide (r78.2.2.2.2.2.2.2.2.2.2.2.2.2.2.2.2.2.2 = 0))), (3, r78.2.2.2.2.2.2.2.2.2.2.2.2.2.2.2.2.1), (4, Value.int .i64 n94), (5, Value.bool (decide (0 < n94))), (6, Value.bool (decide (0 < n94))), (7, Value.bool (decide (0 < n94))), (8, Value.int .u64 r78.2.2.2.2.2.2.2.2.2.2.2.2.2.2.2.2.2.1), (9, Value.int .i64 i_12), (10, Value.int .u64 (IntKind.u64.wrap i_12)), (11, Value.int .u64 (IntKind.u64.wrap ((IntKind.u64.wrap i_12) + 2))), (12, Value.bool (!decide (r78.2.2.2.2.2.2.2.2.2.2.2.2.2.2.2.2.2.1 = (IntKind.u64.wrap ((IntKind.u64.wrap i_12) + 2))))), (13, Value.bool (!decide (r78.2.2.2.2.2.2.2.2.2.2.2.2.2.2.2.2.2.1 = (IntKind.u64.wrap ((IntKind.u64.wrap i_12) + 2))))), (14, Value.bool (!decide (r78.2.2.2.2.2.2.2.2.2.2.2.2.2.2.2.2.2.1 = (IntKind.u64.wrap ((IntKind.u64.wrap i_12) + 2))))), (15, p104), (16, Value.int .u64 x112), (17, Value.int .u64 r78.2.2.2.2.2.2.2.2.2.2.2.2.2.2.2.2.2.1), (18, Value.bool (!decide (x112 = r78.2.2.2.2.2.2.2.2.2.2.2.2.2.2.2.2.2.1))), (19, Value.bool (!decide (x112 = r78.2.2.2.2.2.2.2.2.2.2.2.2.2.2.2.2.2.1))), (20, Value.bool (!decide (x112 = r78.2.2.2.2.2.2.2.2.2.2.2.2.2.2.2.2.2.1))), (21, undef), (22, undef), (23, undef), (24, undef), (25, undef), (26, undef), (27, undef), (28, undef), (29, undef), (30, undef), (31, undef), (32, undef), (33, undef), (34, undef), (35, Value.bool true), (36, Value.bool true), (37, undef), (38, undef), (39, undef), (40, undef), (41, undef), (42, undef), (43, undef), (44, undef), (45, Value.bool true)]) E3_88 mixed R3_24_N R3_24_O rfl (pv_cons rfl (pv_cons rfl (pv_cons rfl (pv_cons rfl (pv_cons rfl (pv_cons rfl (pv_cons rfl (pv_cons rfl (pv_cons rfl (pv_cons rfl (pv_cons rfl (pv_cons rfl (pv_cons rfl (pv_cons rfl (pv_cons rfl (pv_cons rfl (pv_cons rfl (pv_cons rfl (pv_cons rfl (pv_cons rfl (pv_cons rfl (pv_cons rfl (pv_cons rfl (pv_cons rfl (pv_cons rfl (pv_cons rfl (pv_cons rfl (pv_cons rfl (pv_cons rfl (pv_cons rfl (pv_cons rfl (pv_cons rfl (pv_cons rfl (pv_cons rfl (pv_cons rfl (pv_cons rfl (pv_cons rfl (pv_cons rfl (pv_cons rfl (pv_cons rfl (pv_cons rfl (pv_cons rfl (pv_cons rfl (pv_cons rfl (pv_cons rfl (pv_cons rfl (pv_nil _)))))))))))))))))))))))))))))))))))))))))))))))
              (ffc (d := 91) (v := .int .i64 r78.2.2.2.2.2.2.2.2.2.2.2.2.2.2.2.2.2.2) (hd_v rfl fun ρ hρ => ⟨rfl, opv_move rfl rfl ((hρ 16 (lmem rfl)).trans h16)⟩) rfl rfl
              (ffc (d := 92) (v := .bool (!decide (r78.2.2.2.2.2.2.2.2.2.2.2.2.2.2.2.2.2.2 = 0))) (hd_v rfl fun ρ hρ => ⟨rfl, opv_neI rfl rfl rfl ((hρ 91 (lmem rfl)).trans rfl) rfl⟩) rfl rfl
              (ffc (d := 93) (v := .bool (!decide (r78.2.2.2.2.2.2.2.2.2.2.2.2.2.2.2.2.2.2 = 0))) (hd_v rfl fun ρ hρ => ⟨rfl, opv_move rfl rfl ((hρ 92 (lmem rfl)).trans rfl)⟩) rfl rfl
              (ffc (d := 94) (v := r78.2.2.2.2.2.2.2.2.2.2.2.2.2.2.2.2.1) (hd_v rfl fun ρ hρ => ⟨⟨_, rfl, .inl ⟨_, ((hρ 93 (lmem rfl)).trans rfl), gq hb92 rfl⟩⟩, opv_move rfl rfl ((hρ 14 (lmem rfl)).trans h14)⟩) rfl rfl
              (ffc (d := 95) (v := .int .i64 n94) (hd_v rfl fun ρ hρ => ⟨⟨_, rfl, .inl ⟨_, ((hρ 93 (lmem rfl)).trans rfl), gq hb92 rfl⟩⟩, ov_len rfl rfl rfl underlying34 ((hρ 94 (lmem rfl)).trans rfl) hv98 hn99⟩) rfl rfl
              (ffc (d := 96) (v := .bool (decide (0 < n94))) (hd_v rfl fun ρ hρ => ⟨⟨_, rfl, .inl ⟨_, ((hρ 93 (lmem rfl)).trans rfl), gq hb92 rfl⟩⟩, opv_gt rfl rfl rfl ((hρ 95 (lmem rfl)).trans rfl) rfl⟩) rfl rfl
              (ffc (d := 97) (v := .bool (decide (0 < n94))) (hd_v rfl fun ρ hρ => ⟨rfl, ov_pickF rfl rfl rfl rfl ((hρ 93 (lmem rfl)).trans rfl) hb92 ((hρ 96 (lmem rfl)).trans rfl)⟩) rfl rfl
              (ffc (d := 98) (v := .bool (decide (0 < n94))) (hd_v rfl fun ρ hρ => ⟨rfl, opv_move rfl rfl ((hρ 97 (lmem rfl)).trans rfl)⟩) rfl rfl
              (ffc (d := 99) (v := .int .u64 r78.2.2.2.2.2.2.2.2.2.2.2.2.2.2.2.2.2.1) (hd_v rfl fun ρ hρ => ⟨⟨_, rfl, .inl ⟨_, ((hρ 98 (lmem rfl)).trans rfl), gq hb100 rfl⟩⟩, opv_move rfl rfl ((hρ 15 (lmem rfl)).trans h15)⟩) rfl rfl
              (ffc (d := 100) (v := .int .i64 i_12) (hd_v rfl fun ρ hρ => ⟨⟨_, rfl, .inl ⟨_, ((hρ 98 (lmem rfl)).trans rfl), gq hb100 rfl⟩⟩, opv_move rfl rfl ((hρ 12 (lmem rfl)).trans h12)⟩) rfl rfl
              (ffc (d := 101) (v := .int .u64 (IntKind.u64.wrap i_12)) (hd_v rfl fun ρ hρ => ⟨⟨_, rfl, .inl ⟨_, ((hρ 98 (lmem rfl)).trans rfl), gq hb100 rfl⟩⟩, opv_conv rfl rfl underlying3 underlying24 ((hρ 100 (lmem rfl)).trans rfl)⟩) rfl rfl
              (ffc (d := 102) (v := .int .u64 (IntKind.u64.wrap ((IntKind.u64.wrap i_12) + 2))) (hd_v rfl fun ρ hρ => ⟨⟨_, rfl, .inl ⟨_, ((hρ 98 (lmem rfl)).trans rfl), gq hb100 rfl⟩⟩, opv_add rfl rfl rfl ((hρ 101 (lmem rfl)).trans rfl) rfl⟩) rfl rfl
              (ffc (d := 103) (v := .bool (!decide (r78.2.2.2.2.2.2.2.2.2.2.2.2.2.2.2.2.2.1 = (IntKind.u64.wrap ((IntKind.u64.wrap i_12) + 2))))) (hd_v rfl fun ρ hρ => ⟨⟨_, rfl, .inl ⟨_, ((hρ 98 (lmem rfl)).trans rfl), gq hb100 rfl⟩⟩, opv_neI rfl rfl rfl ((hρ 99 (lmem rfl)).trans rfl) ((hρ 102 (lmem rfl)).trans rfl)⟩) rfl rfl
              (ffc (d := 104) (v := .bool (!decide (r78.2.2.2.2.2.2.2.2.2.2.2.2.2.2.2.2.2.1 = (IntKind.u64.wrap ((IntKind.u64.wrap i_12) + 2))))) (hd_v rfl fun ρ hρ => ⟨rfl, ov_pickF rfl rfl rfl rfl ((hρ 98 (lmem rfl)).trans rfl) hb100 ((hρ 103 (lmem rfl)).trans rfl)⟩) rfl rfl
              (ffc (d := 105) (v := .bool (!decide (r78.2.2.2.2.2.2.2.2.2.2.2.2.2.2.2.2.2.1 = (IntKind.u64.wrap ((IntKind.u64.wrap i_12) + 2))))) (hd_v rfl fun ρ hρ => ⟨rfl, opv_move rfl rfl ((hρ 104 (lmem rfl)).trans rfl)⟩) rfl rfl
              (ffc (d := 106) (v := p104) (hd_v rfl fun ρ hρ => ⟨⟨_, rfl, .inl ⟨_, ((hρ 105 (lmem rfl)).trans rfl), gq hb102 rfl⟩⟩, ov_fldA rfl rfl underlying30 rfl sz24 (by decide) ((hρ 13 (lmem rfl)).trans h13) hp107 rfl hv108⟩) rfl rfl
              (ffc (d := 107) (v := .int .u64 x112) (hd_v rfl fun ρ hρ => ⟨⟨_, rfl, .inl ⟨_, ((hρ 105 (lmem rfl)).trans rfl), gq hb102 rfl⟩⟩, ov_ldI rfl underlying24 rfl ((hρ 106 (lmem rfl)).trans rfl) hp111 hg113⟩) rfl rfl
              (ffc (d := 108) (v := .int .u64 r78.2.2.2.2.2.2.2.2.2.2.2.2.2.2.2.2.2.1) (hd_v rfl fun ρ hρ => ⟨⟨_, rfl, .inl ⟨_, ((hρ 105 (lmem rfl)).trans rfl), gq hb102 rfl⟩⟩, opv_move rfl rfl ((hρ 15 (lmem rfl)).trans h15)⟩) rfl rfl
              (ffc (d := 109) (v := .bool (!decide (x112 = r78.2.2.2.2.2.2.2.2.2.2.2.2.2.2.2.2.2.1))) (hd_v rfl fun ρ hρ => ⟨⟨_, rfl, .inl ⟨_, ((hρ 105 (lmem rfl)).trans rfl), gq hb102 rfl⟩⟩, opv_neI rfl rfl rfl ((hρ 107 (lmem rfl)).trans rfl) ((hρ 108 (lmem rfl)).trans rfl)⟩) rfl rfl
              (ffc (d := 110) (v := .bool (!decide (x112 = r78.2.2.2.2.2.2.2.2.2.2.2.2.2.2.2.2.2.1))) (hd_v rfl fun ρ hρ => ⟨rfl, ov_pickF rfl rfl rfl rfl ((hρ 105 (lmem rfl)).trans rfl) hb102 ((hρ 109 (lmem rfl)).trans rfl)⟩) rfl rfl
              (ffc (d := 111) (v := .bool (!decide (x112 = r78.2.2.2.2.2.2.2.2.2.2.2.2.2.2.2.2.2.1))) (hd_v rfl fun ρ hρ => ⟨rfl, opv_move rfl rfl ((hρ 110 (lmem rfl)).trans rfl)⟩) rfl rfl
              (ffc (d := 112) (v := undef) (hd_s rfl (fun ρ hρ => ⟨_, rfl, .inl ⟨_, ((hρ 111 (lmem rfl)).trans rfl), gq hb114 rfl⟩⟩) rfl) rfl rfl
              (ffc (d := 113) (v := undef) (hd_s rfl (fun ρ hρ => ⟨_, rfl, .inl ⟨_, ((hρ 111 (lmem rfl)).trans rfl), gq hb114 rfl⟩⟩) rfl) rfl rfl
              (ffc (d := 114) (v := undef) (hd_s rfl (fun ρ hρ => ⟨_, rfl, .inl ⟨_, ((hρ 111 (lmem rfl)).trans rfl), gq hb114 rfl⟩⟩) rfl) rfl rfl
              (ffc (d := 115) (v := undef) (hd_s rfl (fun ρ hρ => ⟨_, rfl, .inl ⟨_, ((hρ 111 (lmem rfl)).trans rfl), gq hb114 rfl⟩⟩) rfl) rfl rfl
              (ffc (d := 116) (v := undef) (hd_s rfl (fun ρ hρ => ⟨_, rfl, .inl ⟨_, ((hρ 111 (lmem rfl)).trans rfl), gq hb114 rfl⟩⟩) rfl) rfl rfl
              (ffc (d := 117) (v := undef) (hd_s rfl (fun ρ hρ => ⟨_, rfl, .inl ⟨_, ((hρ 111 (lmem rfl)).trans rfl), gq hb114 rfl⟩⟩) rfl) rfl rfl
              (ffc (d := 118) (v := undef) (hd_s rfl (fun ρ hρ => ⟨_, rfl, .inl ⟨_, ((hρ 111 (lmem rfl)).trans rfl), gq hb114 rfl⟩⟩) rfl) rfl rfl
              (ffc (d := 119) (v := undef) (hd_s rfl (fun ρ hρ => ⟨_, rfl, .inl ⟨_, ((hρ 111 (lmem rfl)).trans rfl), gq hb114 rfl⟩⟩) rfl) rfl rfl
              (ffc (d := 120) (v := undef) (hd_s rfl (fun ρ hρ => ⟨_, rfl, .inl ⟨_, ((hρ 111 (lmem rfl)).trans rfl), gq hb114 rfl⟩⟩) rfl) rfl rfl
              (ffc (d := 121) (v := undef) (hd_s rfl (fun ρ hρ => ⟨_, rfl, .inl ⟨_, ((hρ 111 (lmem rfl)).trans rfl), gq hb114 rfl⟩⟩) rfl) rfl rfl
              (ffc (d := 122) (v := undef) (hd_s rfl (fun ρ hρ => ⟨_, rfl, .inl ⟨_, ((hρ 111 (lmem rfl)).trans rfl), gq hb114 rfl⟩⟩) rfl) rfl rfl
              (ffc (d := 123) (v := undef) (hd_s rfl (fun ρ hρ => ⟨_, rfl, .inl ⟨_, ((hρ 111 (lmem rfl)).trans rfl), gq hb114 rfl⟩⟩) rfl) rfl rfl
              (ffc (d := 124) (v := undef) (hd_s rfl (fun ρ hρ => ⟨_, rfl, .inl ⟨_, ((hρ 111 (lmem rfl)).trans rfl), gq hb114 rfl⟩⟩) rfl) rfl rfl
              (ffc (d := 125) (v := undef) (hd_s rfl (fun ρ hρ => ⟨_, rfl, .inl ⟨_, ((hρ 111 (lmem rfl)).trans rfl), gq hb114 rfl⟩⟩) rfl) rfl rfl
              (ffc (d := 126) (v := .bool true) (hd_v rfl fun ρ hρ => ⟨rfl, ov_pickT rfl rfl rfl rfl ((hρ 111 (lmem rfl)).trans rfl) hb114 rfl⟩) rfl rfl
              (ffc (d := 127) (v := .bool true) (hd_v rfl fun ρ hρ => ⟨rfl, opv_move rfl rfl ((hρ 126 (lmem rfl)).trans rfl)⟩) rfl rfl
              (ffc (d := 128) (v := undef) (hd_s rfl (fun ρ hρ => ⟨_, rfl, .inl ⟨_, ((hρ 127 (lmem rfl)).trans rfl), gq rfl rfl⟩⟩) rfl) rfl rfl
              (ffc (d := 129) (v := undef) (hd_s rfl (fun ρ hρ => ⟨_, rfl, .inl ⟨_, ((hρ 127 (lmem rfl)).trans rfl), gq rfl rfl⟩⟩) rfl) rfl rfl
              (ffc (d := 130) (v := undef) (hd_s rfl (fun ρ hρ => ⟨_, rfl, .inl ⟨_, ((hρ 127 (lmem rfl)).trans rfl), gq rfl rfl⟩⟩) rfl) rfl rfl
              (ffc (d := 131) (v := undef) (hd_s rfl (fun ρ hρ => ⟨_, rfl, .inl ⟨_, ((hρ 127 (lmem rfl)).trans rfl), gq rfl rfl⟩⟩) rfl) rfl rfl
              (ffc (d := 132) (v := undef) (hd_s rfl (fun ρ hρ => ⟨_, rfl, .inl ⟨_, ((hρ 127 (lmem rfl)).trans rfl), gq rfl rfl⟩⟩) rfl) rfl rfl
              (ffc (d := 133) (v := undef) (hd_s rfl (fun ρ hρ => ⟨_, rfl, .inl ⟨_, ((hρ 127 (lmem rfl)).trans rfl), gq rfl rfl⟩⟩) rfl) rfl rfl
              (ffc (d := 134) (v := undef) (hd_s rfl (fun ρ hρ => ⟨_, rfl, .inl ⟨_, ((hρ 127 (lmem rfl)).trans rfl), gq rfl rfl⟩⟩) rfl) rfl rfl
              (ffc (d := 135) (v := undef) (hd_s rfl (fun ρ hρ => ⟨_, rfl, .inl ⟨_, ((hρ 127 (lmem rfl)).trans rfl), gq rfl rfl⟩⟩) rfl) rfl rfl
              (ffc (d := 136) (v := .bool true) (hd_v rfl fun ρ hρ => ⟨rfl, ov_pickT rfl rfl rfl rfl ((hρ 127 (lmem rfl)).trans rfl) rfl rfl⟩) rfl rfl
              ffn)))))))))))))))))))))))))))))))))))))))))))))) ?_
            refine lt_end ?_
            refine ago_condE  E3_89 rfl rfl (fun h => ?_) (fun h => tf h)
            refine ago_seqE E3_90 ?_
            refine ago_regE E3_91 (l := [0]) rfl ?_
            refine lk (dt := some 6) R3_25_N rfl rfl rfl (opv_assign rfl rfl rfl) ?_
            refine aops_nil ?_
            exact ago_retE E3_92 (r := false) (ares_1 rfl (oneT rfl)) rfl H
          · replace H := cnd_f H hb114
            obtain ⟨b117, i118, p116, hp119, hv120, H⟩ := H
            obtain ⟨b121, i122, x124, hp123, hg125, H⟩ := H
            obtain ⟨b127, i128, l129, c130, p126, hp131, h0132, hj133, hv134, H⟩ := H
            obtain ⟨b136, i137, p135, hp138, hv139, H⟩ := H
            obtain ⟨b140, i141, x143, hp142, hg144, H⟩ := H
            obtain ⟨l150, n149, s145, hs146, hq147, hv148, H⟩ := H
            have hl151 := srcB_len hs146
            obtain ⟨b153, i154, l155, c156, p152, hp157, h0158, hj159, hv160, H⟩ := H
            obtain ⟨b161, i162, x164, hp163, hg165, H⟩ := H
            obtain ⟨l171, n170, s166, hs167, hq168, hv169, H⟩ := H
            have hl172 := srcB_len hs167
            rcases Bool.eq_false_or_eq_true (!decide (s145 = s166)) with hb173 | hb173
            · replace H := cnd_t H hb173
              refine ago_drawH (p := [0, 1, 2, 3, 4, 5, 6, 7, 8, 9, 10, 11, 12, 13, 14, 15, 16, 17, 18, 19, 20, 21, 22, 23, 24, 25, 26, 27, 28, 29, 30, 31, 32, 33, 34, 35, 36, 37, 38, 39, 40, 41, 42, 43, 44, 45]) (tl := []) (hv := [(0, Value.int .i64 r78.2.2.2.2.2.2.2.2.2.2.2.2.2.2.2.2.2.2), (1, Value.bool (!decide (r78.2.2.2.2.2.2.2.2.2.2.2.2.2.2.2.2.2.2 = 0))), (2, Value.bool (!decide (r78.2.2.2.2.2.2.2.2.2.2.2.2.2.2.2.2.2.2 = 0))), (3, r78.2.2.2.2.2.2.2.2.2.2.2.2.2.2.2.2.1), (4, Value.int .i64 n94), (5, Value.bool (decide (0 < n94))), (6, Value.bool (decide (0 < n94))), (7, Value.bool (decide (0 < n94))), (8, Value.int .u64 r78.2.2.2.2.2.2.2.2.2.2.2.2.2.2.2.2.2.1), (9, Value.int .i64 i_12), (10, Value.int .u64 (IntKind.u64.wrap i_12)), (11, Value.int .u64 (IntKind.u64.wrap ((IntKind.u64.wrap i_12) + 2))), (12, Value.bool (!decide (r78.2.2.2.2.2.2.2.2.2.2.2.2.2.2.2.2.2.1 = (IntKind.u64.wrap ((IntKind.u64.wrap i_12) + 2))))), (13, Value.bool (!decide (r78.2.2.2.2.2.2.2.2.2.2.2.2.2.2.2.2.2.1 = (IntKind.u64.wrap ((IntKind.u64.wrap i_12) + 2))))), (14, Value.bool (!decide (r78.2.2.2.2.2.2.2.2.2.2.2.2.2.2.2.2.2.1 = (IntKind.u64.wrap ((IntKind.u64.wrap i_12) + 2))))), (15, p104), (16, Value.int .u64 x112), (17, Value.int .u64 r78.2.2.2.2.2.2.2.2.2.2.2.2.2.2.2.2.2.1), (18, Value.bool (!decide (x112 = r78.2.2.2.2.2.2.2.2.2.2.2.2.2.2.2.2.2.1))), (19, Value.bool (!decide (x112 = r78.2.2.2.2.2.2.2.2.2.2.2.2.2.2.2.2.2.1))), (20, Value.bool (!decide (x112 = r78.2.2.2.2.2.2.2.2.2.2.2.2.2.2.2.2.2.1))), (21, p116), (22, x124), (23, Value.int .u64 r78.2.2.2.2.2.2.2.2.2.2.2.2.2.2.2.2.2.1), (24, Value.int .u64 (IntKind.u64.wrap (r78.2.2.2.2.2.2.2.2.2.2.2.2.2.2.2.2.2.1 - 1))), (25, p126), (26, p135), (27, x143), (28, Value.string s145), (29, cells_1), (30, Value.int .i64 i_12), (31, p152), (32, x164), (33, Value.string s166), (34, Value.bool (!decide (s145 = s166))), (35, Value.bool (!decide (s145 = s166))), (36, Value.bool (!decide (s145 = s166))), (37, undef), (38, undef), (39, undef), (40, undef), (41, undef), (42, undef), (43, undef), (44, undef), (45, Value.bool true)]) E3_88 mixed R3_24_N R3_24_O rfl (pv_cons rfl (pv_cons rfl (pv_cons rfl (pv_cons rfl (pv_cons rfl (pv_cons rfl (pv_cons rfl (pv_cons rfl (pv_cons rfl (pv_cons rfl (pv_cons rfl (pv_cons rfl (pv_cons rfl (pv_cons rfl (pv_cons rfl (pv_cons rfl (pv_cons rfl (pv_cons rfl (pv_cons rfl (pv_cons rfl (pv_cons rfl (pv_cons rfl (pv_cons rfl (pv_cons rfl (pv_cons rfl (pv_cons rfl (pv_cons rfl (pv_cons rfl (pv_cons rfl (pv_cons rfl (pv_cons rfl (pv_cons rfl (pv_cons rfl (pv_cons rfl (pv_cons rfl (pv_cons rfl (pv_cons rfl (pv_cons rfl (pv_cons rfl (pv_cons rfl (pv_cons rfl (pv_cons rfl (pv_cons rfl (pv_cons rfl (pv_cons rfl (pv_cons rfl (pv_nil _)))))))))))))))))))))))))))))))))))))))))))))))
                (ffc (d := 91) (v := .int .i64 r78.2.2.2.2.2.2.2.2.2.2.2.2.2.2.2.2.2.2) (hd_v rfl fun ρ hρ => ⟨rfl, opv_move rfl rfl ((hρ 16 (lmem rfl)).trans h16)⟩) rfl rfl
                (ffc (d := 92) (v := .bool (!decide (r78.2.2.2.2.2.2.2.2.2.2.2.2.2.2.2.2.2.2 = 0))) (hd_v rfl fun ρ hρ => ⟨rfl, opv_neI rfl rfl rfl ((hρ 91 (lmem rfl)).trans rfl) rfl⟩) rfl rfl
                (ffc (d := 93) (v := .bool (!decide (r78.2.2.2.2.2.2.2.2.2.2.2.2.2.2.2.2.2.2 = 0))) (hd_v rfl fun ρ hρ => ⟨rfl, opv_move rfl rfl ((hρ 92 (lmem rfl)).trans rfl)⟩) rfl rfl
                (ffc (d := 94) (v := r78.2.2.2.2.2.2.2.2.2.2.2.2.2.2.2.2.1) (hd_v rfl fun ρ hρ => ⟨⟨_, rfl, .inl ⟨_, ((hρ 93 (lmem rfl)).trans rfl), gq hb92 rfl⟩⟩, opv_move rfl rfl ((hρ 14 (lmem rfl)).trans h14)⟩) rfl rfl
                (ffc (d := 95) (v := .int .i64 n94) (hd_v rfl fun ρ hρ => ⟨⟨_, rfl, .inl ⟨_, ((hρ 93 (lmem rfl)).trans rfl), gq hb92 rfl⟩⟩, ov_len rfl rfl rfl underlying34 ((hρ 94 (lmem rfl)).trans rfl) hv98 hn99⟩) rfl rfl
                (ffc (d := 96) (v := .bool (decide (0 < n94))) (hd_v rfl fun ρ hρ => ⟨⟨_, rfl, .inl ⟨_, ((hρ 93 (lmem rfl)).trans rfl), gq hb92 rfl⟩⟩, opv_gt rfl rfl rfl ((hρ 95 (lmem rfl)).trans rfl) rfl⟩) rfl rfl
                (ffc (d := 97) (v := .bool (decide (0 < n94))) (hd_v rfl fun ρ hρ => ⟨rfl, ov_pickF rfl rfl rfl rfl ((hρ 93 (lmem rfl)).trans rfl) hb92 ((hρ 96 (lmem rfl)).trans rfl)⟩) rfl rfl
                (ffc (d := 98) (v := .bool (decide (0 < n94))) (hd_v rfl fun ρ hρ => ⟨rfl, opv_move rfl rfl ((hρ 97 (lmem rfl)).trans rfl)⟩) rfl rfl
                (ffc (d := 99) (v := .int .u64 r78.2.2.2.2.2.2.2.2.2.2.2.2.2.2.2.2.2.1) (hd_v rfl fun ρ hρ => ⟨⟨_, rfl, .inl ⟨_, ((hρ 98 (lmem rfl)).trans rfl), gq hb100 rfl⟩⟩, opv_move rfl rfl ((hρ 15 (lmem rfl)).trans h15)⟩) rfl rfl
                (ffc (d := 100) (v := .int .i64 i_12) (hd_v rfl fun ρ hρ => ⟨⟨_, rfl, .inl ⟨_, ((hρ 98 (lmem rfl)).trans rfl), gq hb100 rfl⟩⟩, opv_move rfl rfl ((hρ 12 (lmem rfl)).trans h12)⟩) rfl rfl
                (ffc (d := 101) (v := .int .u64 (IntKind.u64.wrap i_12)) (hd_v rfl fun ρ hρ => ⟨⟨_, rfl, .inl ⟨_, ((hρ 98 (lmem rfl)).trans rfl), gq hb100 rfl⟩⟩, opv_conv rfl rfl underlying3 underlying24 ((hρ 100 (lmem rfl)).trans rfl)⟩) rfl rfl
                (ffc (d := 102) (v := .int .u64 (IntKind.u64.wrap ((IntKind.u64.wrap i_12) + 2))) (hd_v rfl fun ρ hρ => ⟨⟨_, rfl, .inl ⟨_, ((hρ 98 (lmem rfl)).trans rfl), gq hb100 rfl⟩⟩, opv_add rfl rfl rfl ((hρ 101 (lmem rfl)).trans rfl) rfl⟩) rfl rfl
                (ffc (d := 103) (v := .bool (!decide (r78.2.2.2.2.2.2.2.2.2.2.2.2.2.2.2.2.2.1 = (IntKind.u64.wrap ((IntKind.u64.wrap i_12) + 2))))) (hd_v rfl fun ρ hρ => ⟨⟨_, rfl, .inl ⟨_, ((hρ 98 (lmem rfl)).trans rfl), gq hb100 rfl⟩⟩, opv_neI rfl rfl rfl ((hρ 99 (lmem rfl)).trans rfl) ((hρ 102 (lmem rfl)).trans rfl)⟩) rfl rfl
                (ffc (d := 104) (v := .bool (!decide (r78.2.2.2.2.2.2.2.2.2.2.2.2.2.2.2.2.2.1 = (IntKind.u64.wrap ((IntKind.u64.wrap i_12) + 2))))) (hd_v rfl fun ρ hρ => ⟨rfl, ov_pickF rfl rfl rfl rfl ((hρ 98 (lmem rfl)).trans rfl) hb100 ((hρ 103 (lmem rfl)).trans rfl)⟩) rfl rfl
                (ffc (d := 105) (v := .bool (!decide (r78.2.2.2.2.2.2.2.2.2.2.2.2.2.2.2.2.2.1 = (IntKind.u64.wrap ((IntKind.u64.wrap i_12) + 2))))) (hd_v rfl fun ρ hρ => ⟨rfl, opv_move rfl rfl ((hρ 104 (lmem rfl)).trans rfl)⟩) rfl rfl
                (ffc (d := 106) (v := p104) (hd_v rfl fun ρ hρ => ⟨⟨_, rfl, .inl ⟨_, ((hρ 105 (lmem rfl)).trans rfl), gq hb102 rfl⟩⟩, ov_fldA rfl rfl underlying30 rfl sz24 (by decide) ((hρ 13 (lmem rfl)).trans h13) hp107 rfl hv108⟩) rfl rfl
                (ffc (d := 107) (v := .int .u64 x112) (hd_v rfl fun ρ hρ => ⟨⟨_, rfl, .inl ⟨_, ((hρ 105 (lmem rfl)).trans rfl), gq hb102 rfl⟩⟩, ov_ldI rfl underlying24 rfl ((hρ 106 (lmem rfl)).trans rfl) hp111 hg113⟩) rfl rfl
                (ffc (d := 108) (v := .int .u64 r78.2.2.2.2.2.2.2.2.2.2.2.2.2.2.2.2.2.1) (hd_v rfl fun ρ hρ => ⟨⟨_, rfl, .inl ⟨_, ((hρ 105 (lmem rfl)).trans rfl), gq hb102 rfl⟩⟩, opv_move rfl rfl ((hρ 15 (lmem rfl)).trans h15)⟩) rfl rfl
                (ffc (d := 109) (v := .bool (!decide (x112 = r78.2.2.2.2.2.2.2.2.2.2.2.2.2.2.2.2.2.1))) (hd_v rfl fun ρ hρ => ⟨⟨_, rfl, .inl ⟨_, ((hρ 105 (lmem rfl)).trans rfl), gq hb102 rfl⟩⟩, opv_neI rfl rfl rfl ((hρ 107 (lmem rfl)).trans rfl) ((hρ 108 (lmem rfl)).trans rfl)⟩) rfl rfl
                (ffc (d := 110) (v := .bool (!decide (x112 = r78.2.2.2.2.2.2.2.2.2.2.2.2.2.2.2.2.2.1))) (hd_v rfl fun ρ hρ => ⟨rfl, ov_pickF rfl rfl rfl rfl ((hρ 105 (lmem rfl)).trans rfl) hb102 ((hρ 109 (lmem rfl)).trans rfl)⟩) rfl rfl
                (ffc (d := 111) (v := .bool (!decide (x112 = r78.2.2.2.2.2.2.2.2.2.2.2.2.2.2.2.2.2.1))) (hd_v rfl fun ρ hρ => ⟨rfl, opv_move rfl rfl ((hρ 110 (lmem rfl)).trans rfl)⟩) rfl rfl
                (ffc (d := 112) (v := p116) (hd_v rfl fun ρ hρ => ⟨⟨_, rfl, .inl ⟨_, ((hρ 111 (lmem rfl)).trans rfl), gq hb114 rfl⟩⟩, ov_fldA rfl rfl underlying30 rfl sz26 (by decide) ((hρ 13 (lmem rfl)).trans h13) hp119 rfl hv120⟩) rfl rfl
                (ffc (d := 113) (v := x124) (hd_v rfl fun ρ hρ => ⟨⟨_, rfl, .inl ⟨_, ((hρ 111 (lmem rfl)).trans rfl), gq hb114 rfl⟩⟩, ov_ldV rfl underlying26 rfl rfl ((hρ 112 (lmem rfl)).trans rfl) hp123 hg125⟩) rfl rfl
                (ffc (d := 114) (v := .int .u64 r78.2.2.2.2.2.2.2.2.2.2.2.2.2.2.2.2.2.1) (hd_v rfl fun ρ hρ => ⟨⟨_, rfl, .inl ⟨_, ((hρ 111 (lmem rfl)).trans rfl), gq hb114 rfl⟩⟩, opv_move rfl rfl ((hρ 15 (lmem rfl)).trans h15)⟩) rfl rfl
                (ffc (d := 115) (v := .int .u64 (IntKind.u64.wrap (r78.2.2.2.2.2.2.2.2.2.2.2.2.2.2.2.2.2.1 - 1))) (hd_v rfl fun ρ hρ => ⟨⟨_, rfl, .inl ⟨_, ((hρ 111 (lmem rfl)).trans rfl), gq hb114 rfl⟩⟩, opv_sub rfl rfl rfl ((hρ 114 (lmem rfl)).trans rfl) rfl⟩) rfl rfl
                (ffc (d := 116) (v := p126) (hd_v rfl fun ρ hρ => ⟨⟨_, rfl, .inl ⟨_, ((hρ 111 (lmem rfl)).trans rfl), gq hb114 rfl⟩⟩, ov_ixS rfl rfl rfl underlying26 sz40 ((hρ 113 (lmem rfl)).trans rfl) ((hρ 115 (lmem rfl)).trans rfl) hp131 h0132 hj133 hv134⟩) rfl rfl
                (ffc (d := 117) (v := p135) (hd_v rfl fun ρ hρ => ⟨⟨_, rfl, .inl ⟨_, ((hρ 111 (lmem rfl)).trans rfl), gq hb114 rfl⟩⟩, ov_fldA rfl rfl underlying40 rfl sz25 (by decide) ((hρ 116 (lmem rfl)).trans rfl) hp138 rfl hv139⟩) rfl rfl
                (ffc (d := 118) (v := x143) (hd_v rfl fun ρ hρ => ⟨⟨_, rfl, .inl ⟨_, ((hρ 111 (lmem rfl)).trans rfl), gq hb114 rfl⟩⟩, ov_ldV rfl underlying25 rfl rfl ((hρ 117 (lmem rfl)).trans rfl) hp142 hg144⟩) rfl rfl
                (ffc (d := 119) (v := .string s145) (hd_v rfl fun ρ hρ => ⟨⟨_, rfl, .inl ⟨_, ((hρ 111 (lmem rfl)).trans rfl), gq hb114 rfl⟩⟩, ov_toS rfl rfl underlying25 underlying9 underlying5 ((hρ 118 (lmem rfl)).trans rfl) hs146 hq147 hv148⟩) rfl rfl
                (ffc (d := 120) (v := cells_1) (hd_v rfl fun ρ hρ => ⟨⟨_, rfl, .inl ⟨_, ((hρ 111 (lmem rfl)).trans rfl), gq hb114 rfl⟩⟩, opv_move rfl rfl ((hρ 1 (lmem rfl)).trans h1)⟩) rfl rfl
                (ffc (d := 121) (v := .int .i64 i_12) (hd_v rfl fun ρ hρ => ⟨⟨_, rfl, .inl ⟨_, ((hρ 111 (lmem rfl)).trans rfl), gq hb114 rfl⟩⟩, opv_move rfl rfl ((hρ 12 (lmem rfl)).trans h12)⟩) rfl rfl
                (ffc (d := 122) (v := p152) (hd_v rfl fun ρ hρ => ⟨⟨_, rfl, .inl ⟨_, ((hρ 111 (lmem rfl)).trans rfl), gq hb114 rfl⟩⟩, ov_ixS rfl rfl rfl underlying22 sz25 ((hρ 120 (lmem rfl)).trans rfl) ((hρ 121 (lmem rfl)).trans rfl) hp157 h0158 hj159 hv160⟩) rfl rfl
                (ffc (d := 123) (v := x164) (hd_v rfl fun ρ hρ => ⟨⟨_, rfl, .inl ⟨_, ((hρ 111 (lmem rfl)).trans rfl), gq hb114 rfl⟩⟩, ov_ldV rfl underlying25 rfl rfl ((hρ 122 (lmem rfl)).trans rfl) hp163 hg165⟩) rfl rfl
                (ffc (d := 124) (v := .string s166) (hd_v rfl fun ρ hρ => ⟨⟨_, rfl, .inl ⟨_, ((hρ 111 (lmem rfl)).trans rfl), gq hb114 rfl⟩⟩, ov_toS rfl rfl underlying25 underlying9 underlying5 ((hρ 123 (lmem rfl)).trans rfl) hs167 hq168 hv169⟩) rfl rfl
                (ffc (d := 125) (v := .bool (!decide (s145 = s166))) (hd_v rfl fun ρ hρ => ⟨⟨_, rfl, .inl ⟨_, ((hρ 111 (lmem rfl)).trans rfl), gq hb114 rfl⟩⟩, opv_neS rfl rfl rfl ((hρ 119 (lmem rfl)).trans rfl) ((hρ 124 (lmem rfl)).trans rfl)⟩) rfl rfl
                (ffc (d := 126) (v := .bool (!decide (s145 = s166))) (hd_v rfl fun ρ hρ => ⟨rfl, ov_pickF rfl rfl rfl rfl ((hρ 111 (lmem rfl)).trans rfl) hb114 ((hρ 125 (lmem rfl)).trans rfl)⟩) rfl rfl
                (ffc (d := 127) (v := .bool (!decide (s145 = s166))) (hd_v rfl fun ρ hρ => ⟨rfl, opv_move rfl rfl ((hρ 126 (lmem rfl)).trans rfl)⟩) rfl rfl
                (ffc (d := 128) (v := undef) (hd_s rfl (fun ρ hρ => ⟨_, rfl, .inl ⟨_, ((hρ 127 (lmem rfl)).trans rfl), gq hb173 rfl⟩⟩) rfl) rfl rfl
                (ffc (d := 129) (v := undef) (hd_s rfl (fun ρ hρ => ⟨_, rfl, .inl ⟨_, ((hρ 127 (lmem rfl)).trans rfl), gq hb173 rfl⟩⟩) rfl) rfl rfl
                (ffc (d := 130) (v := undef) (hd_s rfl (fun ρ hρ => ⟨_, rfl, .inl ⟨_, ((hρ 127 (lmem rfl)).trans rfl), gq hb173 rfl⟩⟩) rfl) rfl rfl
                (ffc (d := 131) (v := undef) (hd_s rfl (fun ρ hρ => ⟨_, rfl, .inl ⟨_, ((hρ 127 (lmem rfl)).trans rfl), gq hb173 rfl⟩⟩) rfl) rfl rfl
                (ffc (d := 132) (v := undef) (hd_s rfl (fun ρ hρ => ⟨_, rfl, .inl ⟨_, ((hρ 127 (lmem rfl)).trans rfl), gq hb173 rfl⟩⟩) rfl) rfl rfl
                (ffc (d := 133) (v := undef) (hd_s rfl (fun ρ hρ => ⟨_, rfl, .inl ⟨_, ((hρ 127 (lmem rfl)).trans rfl), gq hb173 rfl⟩⟩) rfl) rfl rfl
                (ffc (d := 134) (v := undef) (hd_s rfl (fun ρ hρ => ⟨_, rfl, .inl ⟨_, ((hρ 127 (lmem rfl)).trans rfl), gq hb173 rfl⟩⟩) rfl) rfl rfl
                (ffc (d := 135) (v := undef) (hd_s rfl (fun ρ hρ => ⟨_, rfl, .inl ⟨_, ((hρ 127 (lmem rfl)).trans rfl), gq hb173 rfl⟩⟩) rfl) rfl rfl
                (ffc (d := 136) (v := .bool true) (hd_v rfl fun ρ hρ => ⟨rfl, ov_pickT rfl rfl rfl rfl ((hρ 127 (lmem rfl)).trans rfl) hb173 rfl⟩) rfl rfl
                ffn)))))))))))))))))))))))))))))))))))))))))))))) ?_
              refine lt_end ?_
              refine ago_condE  E3_89 rfl rfl (fun h => ?_) (fun h => tf h)
              refine ago_seqE E3_90 ?_
              refine ago_regE E3_91 (l := [0]) rfl ?_
              refine lk (dt := some 6) R3_25_N rfl rfl rfl (opv_assign rfl rfl rfl) ?_
              refine aops_nil ?_
              exact ago_retE E3_92 (r := false) (ares_1 rfl (oneT rfl)) rfl H
            · replace H := cnd_f H hb173
              obtain ⟨b176, i177, p175, hp178, hv179, H⟩ := H
              obtain ⟨b180, i181, x183, hp182, hg184, H⟩ := H
              obtain ⟨b186, i187, l188, c189, p185, hp190, h0191, hj192, hv193, H⟩ := H
              obtain ⟨b195, i196, p194, hp197, hv198, H⟩ := H
              obtain ⟨b199, i200, x202, hp201, hg203, H⟩ := H
              refine ago_drawH (p := [0, 1, 2, 3, 4, 5, 6, 7, 8, 9, 10, 11, 12, 13, 14, 15, 16, 17, 18, 19, 20, 21, 22, 23, 24, 25, 26, 27, 28, 29, 30, 31, 32, 33, 34, 35, 36, 37, 38, 39, 40, 41, 42, 43, 44, 45]) (tl := []) (hv := [(0, Value.int .i64 r78.2.2.2.2.2.2.2.2.2.2.2.2.2.2.2.2.2.2), (1, Value.bool (!decide (r78.2.2.2.2.2.2.2.2.2.2.2.2.2.2.2.2.2.2 = 0))), (2, Value.bool (!decide (r78.2.2.2.2.2.2.2.2.2.2.2.2.2.2.2.2.2.2 = 0))), (3, r78.2.2.2.2.2.2.2.2.2.2.2.2.2.2.2.2.1), (4, Value.int .i64 n94), (5, Value.bool (decide (0 < n94))), (6, Value.bool (decide (0 < n94))), (7, Value.bool (decide (0 < n94))), (8, Value.int .u64 r78.2.2.2.2.2.2.2.2.2.2.2.2.2.2.2.2.2.1), (9, Value.int .i64 i_12), (10, Value.int .u64 (IntKind.u64.wrap i_12)), (11, Value.int .u64 (IntKind.u64.wrap ((IntKind.u64.wrap i_12) + 2))), (12, Value.bool (!decide (r78.2.2.2.2.2.2.2.2.2.2.2.2.2.2.2.2.2.1 = (IntKind.u64.wrap ((IntKind.u64.wrap i_12) + 2))))), (13, Value.bool (!decide (r78.2.2.2.2.2.2.2.2.2.2.2.2.2.2.2.2.2.1 = (IntKind.u64.wrap ((IntKind.u64.wrap i_12) + 2))))), (14, Value.bool (!decide (r78.2.2.2.2.2.2.2.2.2.2.2.2.2.2.2.2.2.1 = (IntKind.u64.wrap ((IntKind.u64.wrap i_12) + 2))))), (15, p104), (16, Value.int .u64 x112), (17, Value.int .u64 r78.2.2.2.2.2.2.2.2.2.2.2.2.2.2.2.2.2.1), (18, Value.bool (!decide (x112 = r78.2.2.2.2.2.2.2.2.2.2.2.2.2.2.2.2.2.1))), (19, Value.bool (!decide (x112 = r78.2.2.2.2.2.2.2.2.2.2.2.2.2.2.2.2.2.1))), (20, Value.bool (!decide (x112 = r78.2.2.2.2.2.2.2.2.2.2.2.2.2.2.2.2.2.1))), (21, p116), (22, x124), (23, Value.int .u64 r78.2.2.2.2.2.2.2.2.2.2.2.2.2.2.2.2.2.1), (24, Value.int .u64 (IntKind.u64.wrap (r78.2.2.2.2.2.2.2.2.2.2.2.2.2.2.2.2.2.1 - 1))), (25, p126), (26, p135), (27, x143), (28, Value.string s145), (29, cells_1), (30, Value.int .i64 i_12), (31, p152), (32, x164), (33, Value.string s166), (34, Value.bool (!decide (s145 = s166))), (35, Value.bool (!decide (s145 = s166))), (36, Value.bool (!decide (s145 = s166))), (37, p175), (38, x183), (39, Value.int .u64 r78.2.2.2.2.2.2.2.2.2.2.2.2.2.2.2.2.2.1), (40, Value.int .u64 (IntKind.u64.wrap (r78.2.2.2.2.2.2.2.2.2.2.2.2.2.2.2.2.2.1 - 1))), (41, p185), (42, p194), (43, Value.int .u64 x202), (44, Value.bool (!decide (x202 = 1))), (45, Value.bool (!decide (x202 = 1)))]) E3_88 mixed R3_24_N R3_24_O rfl (pv_cons rfl (pv_cons rfl (pv_cons rfl (pv_cons rfl (pv_cons rfl (pv_cons rfl (pv_cons rfl (pv_cons rfl (pv_cons rfl (pv_cons rfl (pv_cons rfl (pv_cons rfl (pv_cons rfl (pv_cons rfl (pv_cons rfl (pv_cons rfl (pv_cons rfl (pv_cons rfl (pv_cons rfl (pv_cons rfl (pv_cons rfl (pv_cons rfl (pv_cons rfl (pv_cons rfl (pv_cons rfl (pv_cons rfl (pv_cons rfl (pv_cons rfl (pv_cons rfl (pv_cons rfl (pv_cons rfl (pv_cons rfl (pv_cons rfl (pv_cons rfl (pv_cons rfl (pv_cons rfl (pv_cons rfl (pv_cons rfl (pv_cons rfl (pv_cons rfl (pv_cons rfl (pv_cons rfl (pv_cons rfl (pv_cons rfl (pv_cons rfl (pv_cons rfl (pv_nil _)))))))))))))))))))))))))))))))))))))))))))))))
                (ffc (d := 91) (v := .int .i64 r78.2.2.2.2.2.2.2.2.2.2.2.2.2.2.2.2.2.2) (hd_v rfl fun ρ hρ => ⟨rfl, opv_move rfl rfl ((hρ 16 (lmem rfl)).trans h16)⟩) rfl rfl
                (ffc (d := 92) (v := .bool (!decide (r78.2.2.2.2.2.2.2.2.2.2.2.2.2.2.2.2.2.2 = 0))) (hd_v rfl fun ρ hρ => ⟨rfl, opv_neI rfl rfl rfl ((hρ 91 (lmem rfl)).trans rfl) rfl⟩) rfl rfl
                (ffc (d := 93) (v := .bool (!decide (r78.2.2.2.2.2.2.2.2.2.2.2.2.2.2.2.2.2.2 = 0))) (hd_v rfl fun ρ hρ => ⟨rfl, opv_move rfl rfl ((hρ 92 (lmem rfl)).trans rfl)⟩) rfl rfl
                (ffc (d := 94) (v := r78.2.2.2.2.2.2.2.2.2.2.2.2.2.2.2.2.1) (hd_v rfl fun ρ hρ => ⟨⟨_, rfl, .inl ⟨_, ((hρ 93 (lmem rfl)).trans rfl), gq hb92 rfl⟩⟩, opv_move rfl rfl ((hρ 14 (lmem rfl)).trans h14)⟩) rfl rfl
                (ffc (d := 95) (v := .int .i64 n94) (hd_v rfl fun ρ hρ => ⟨⟨_, rfl, .inl ⟨_, ((hρ 93 (lmem rfl)).trans rfl), gq hb92 rfl⟩⟩, ov_len rfl rfl rfl underlying34 ((hρ 94 (lmem rfl)).trans rfl) hv98 hn99⟩) rfl rfl
                (ffc (d := 96) (v := .bool (decide (0 < n94))) (hd_v rfl fun ρ hρ => ⟨⟨_, rfl, .inl ⟨_, ((hρ 93 (lmem rfl)).trans rfl), gq hb92 rfl⟩⟩, opv_gt rfl rfl rfl ((hρ 95 (lmem rfl)).trans rfl) rfl⟩) rfl rfl
                (ffc (d := 97) (v := .bool (decide (0 < n94))) (hd_v rfl fun ρ hρ => ⟨rfl, ov_pickF rfl rfl rfl rfl ((hρ 93 (lmem rfl)).trans rfl) hb92 ((hρ 96 (lmem rfl)).trans rfl)⟩) rfl rfl
                (ffc (d := 98) (v := .bool (decide (0 < n94))) (hd_v rfl fun ρ hρ => ⟨rfl, opv_move rfl rfl ((hρ 97 (lmem rfl)).trans rfl)⟩) rfl rfl
                (ffc (d := 99) (v := .int .u64 r78.2.2.2.2.2.2.2.2.2.2.2.2.2.2.2.2.2.1) (hd_v rfl fun ρ hρ => ⟨⟨_, rfl, .inl ⟨_, ((hρ 98 (lmem rfl)).trans rfl), gq hb100 rfl⟩⟩, opv_move rfl rfl ((hρ 15 (lmem rfl)).trans h15)⟩) rfl rfl
                (ffc (d := 100) (v := .int .i64 i_12) (hd_v rfl fun ρ hρ => ⟨⟨_, rfl, .inl ⟨_, ((hρ 98 (lmem rfl)).trans rfl), gq hb100 rfl⟩⟩, opv_move rfl rfl ((hρ 12 (lmem rfl)).trans h12)⟩) rfl rfl
                (ffc (d := 101) (v := .int .u64 (IntKind.u64.wrap i_12)) (hd_v rfl fun ρ hρ => ⟨⟨_, rfl, .inl ⟨_, ((hρ 98 (lmem rfl)).trans rfl), gq hb100 rfl⟩⟩, opv_conv rfl rfl underlying3 underlying24 ((hρ 100 (lmem rfl)).trans rfl)⟩) rfl rfl
                (ffc (d := 102) (v := .int .u64 (IntKind.u64.wrap ((IntKind.u64.wrap i_12) + 2))) (hd_v rfl fun ρ hρ => ⟨⟨_, rfl, .inl ⟨_, ((hρ 98 (lmem rfl)).trans rfl), gq hb100 rfl⟩⟩, opv_add rfl rfl rfl ((hρ 101 (lmem rfl)).trans rfl) rfl⟩) rfl rfl
                (ffc (d := 103) (v := .bool (!decide (r78.2.2.2.2.2.2.2.2.2.2.2.2.2.2.2.2.2.1 = (IntKind.u64.wrap ((IntKind.u64.wrap i_12) + 2))))) (hd_v rfl fun ρ hρ => ⟨⟨_, rfl, .inl ⟨_, ((hρ 98 (lmem rfl)).trans rfl), gq hb100 rfl⟩⟩, opv_neI rfl rfl rfl ((hρ 99 (lmem rfl)).trans rfl) ((hρ 102 (lmem rfl)).trans rfl)⟩) rfl rfl
                (ffc (d := 104) (v := .bool (!decide (r78.2.2.2.2.2.2.2.2.2.2.2.2.2.2.2.2.2.1 = (IntKind.u64.wrap ((IntKind.u64.wrap i_12) + 2))))) (hd_v rfl fun ρ hρ => ⟨rfl, ov_pickF rfl rfl rfl rfl ((hρ 98 (lmem rfl)).trans rfl) hb100 ((hρ 103 (lmem rfl)).trans rfl)⟩) rfl rfl
                (ffc (d := 105) (v := .bool (!decide (r78.2.2.2.2.2.2.2.2.2.2.2.2.2.2.2.2.2.1 = (IntKind.u64.wrap ((IntKind.u64.wrap i_12) + 2))))) (hd_v rfl fun ρ hρ => ⟨rfl, opv_move rfl rfl ((hρ 104 (lmem rfl)).trans rfl)⟩) rfl rfl
                (ffc (d := 106) (v := p104) (hd_v rfl fun ρ hρ => ⟨⟨_, rfl, .inl ⟨_, ((hρ 105 (lmem rfl)).trans rfl), gq hb102 rfl⟩⟩, ov_fldA rfl rfl underlying30 rfl sz24 (by decide) ((hρ 13 (lmem rfl)).trans h13) hp107 rfl hv108⟩) rfl rfl
                (ffc (d := 107) (v := .int .u64 x112) (hd_v rfl fun ρ hρ => ⟨⟨_, rfl, .inl ⟨_, ((hρ 105 (lmem rfl)).trans rfl), gq hb102 rfl⟩⟩, ov_ldI rfl underlying24 rfl ((hρ 106 (lmem rfl)).trans rfl) hp111 hg113⟩) rfl rfl
                (ffc (d := 108) (v := .int .u64 r78.2.2.2.2.2.2.2.2.2.2.2.2.2.2.2.2.2.1) (hd_v rfl fun ρ hρ => ⟨⟨_, rfl, .inl ⟨_, ((hρ 105 (lmem rfl)).trans rfl), gq hb102 rfl⟩⟩, opv_move rfl rfl ((hρ 15 (lmem rfl)).trans h15)⟩) rfl rfl
                (ffc (d := 109) (v := .bool (!decide (x112 = r78.2.2.2.2.2.2.2.2.2.2.2.2.2.2.2.2.2.1))) (hd_v rfl fun ρ hρ => ⟨⟨_, rfl, .inl ⟨_, ((hρ 105 (lmem rfl)).trans rfl), gq hb102 rfl⟩⟩, opv_neI rfl rfl rfl ((hρ 107 (lmem rfl)).trans rfl) ((hρ 108 (lmem rfl)).trans rfl)⟩) rfl rfl
                (ffc (d := 110) (v := .bool (!decide (x112 = r78.2.2.2.2.2.2.2.2.2.2.2.2.2.2.2.2.2.1))) (hd_v rfl fun ρ hρ => ⟨rfl, ov_pickF rfl rfl rfl rfl ((hρ 105 (lmem rfl)).trans rfl) hb102 ((hρ 109 (lmem rfl)).trans rfl)⟩) rfl rfl
                (ffc (d := 111) (v := .bool (!decide (x112 = r78.2.2.2.2.2.2.2.2.2.2.2.2.2.2.2.2.2.1))) (hd_v rfl fun ρ hρ => ⟨rfl, opv_move rfl rfl ((hρ 110 (lmem rfl)).trans rfl)⟩) rfl rfl
                (ffc (d := 112) (v := p116) (hd_v rfl fun ρ hρ => ⟨⟨_, rfl, .inl ⟨_, ((hρ 111 (lmem rfl)).trans rfl), gq hb114 rfl⟩⟩, ov_fldA rfl rfl underlying30 rfl sz26 (by decide) ((hρ 13 (lmem rfl)).trans h13) hp119 rfl hv120⟩) rfl rfl
                (ffc (d := 113) (v := x124) (hd_v rfl fun ρ hρ => ⟨⟨_, rfl, .inl ⟨_, ((hρ 111 (lmem rfl)).trans rfl), gq hb114 rfl⟩⟩, ov_ldV rfl underlying26 rfl rfl ((hρ 112 (lmem rfl)).trans rfl) hp123 hg125⟩) rfl rfl
                (ffc (d := 114) (v := .int .u64 r78.2.2.2.2.2.2.2.2.2.2.2.2.2.2.2.2.2.1) (hd_v rfl fun ρ hρ => ⟨⟨_, rfl, .inl ⟨_, ((hρ 111 (lmem rfl)).trans rfl), gq hb114 rfl⟩⟩, opv_move rfl rfl ((hρ 15 (lmem rfl)).trans h15)⟩) rfl rfl
                (ffc (d := 115) (v := .int .u64 (IntKind.u64.wrap (r78.2.2.2.2.2.2.2.2.2.2.2.2.2.2.2.2.2.1 - 1))) (hd_v rfl fun ρ hρ => ⟨⟨_, rfl, .inl ⟨_, ((hρ 111 (lmem rfl)).trans rfl), gq hb114 rfl⟩⟩, opv_sub rfl rfl rfl ((hρ 114 (lmem rfl)).trans rfl) rfl⟩) rfl rfl
                (ffc (d := 116) (v := p126) (hd_v rfl fun ρ hρ => ⟨⟨_, rfl, .inl ⟨_, ((hρ 111 (lmem rfl)).trans rfl), gq hb114 rfl⟩⟩, ov_ixS rfl rfl rfl underlying26 sz40 ((hρ 113 (lmem rfl)).trans rfl) ((hρ 115 (lmem rfl)).trans rfl) hp131 h0132 hj133 hv134⟩) rfl rfl
                (ffc (d := 117) (v := p135) (hd_v rfl fun ρ hρ => ⟨⟨_, rfl, .inl ⟨_, ((hρ 111 (lmem rfl)).trans rfl), gq hb114 rfl⟩⟩, ov_fldA rfl rfl underlying40 rfl sz25 (by decide) ((hρ 116 (lmem rfl)).trans rfl) hp138 rfl hv139⟩) rfl rfl
                (ffc (d := 118) (v := x143) (hd_v rfl fun ρ hρ => ⟨⟨_, rfl, .inl ⟨_, ((hρ 111 (lmem rfl)).trans rfl), gq hb114 rfl⟩⟩, ov_ldV rfl underlying25 rfl rfl ((hρ 117 (lmem rfl)).trans rfl) hp142 hg144⟩) rfl rfl
                (ffc (d := 119) (v := .string s145) (hd_v rfl fun ρ hρ => ⟨⟨_, rfl, .inl ⟨_, ((hρ 111 (lmem rfl)).trans rfl), gq hb114 rfl⟩⟩, ov_toS rfl rfl underlying25 underlying9 underlying5 ((hρ 118 (lmem rfl)).trans rfl) hs146 hq147 hv148⟩) rfl rfl
                (ffc (d := 120) (v := cells_1) (hd_v rfl fun ρ hρ => ⟨⟨_, rfl, .inl ⟨_, ((hρ 111 (lmem rfl)).trans rfl), gq hb114 rfl⟩⟩, opv_move rfl rfl ((hρ 1 (lmem rfl)).trans h1)⟩) rfl rfl
                (ffc (d := 121) (v := .int .i64 i_12) (hd_v rfl fun ρ hρ => ⟨⟨_, rfl, .inl ⟨_, ((hρ 111 (lmem rfl)).trans rfl), gq hb114 rfl⟩⟩, opv_move rfl rfl ((hρ 12 (lmem rfl)).trans h12)⟩) rfl rfl
                (ffc (d := 122) (v := p152) (hd_v rfl fun ρ hρ => ⟨⟨_, rfl, .inl ⟨_, ((hρ 111 (lmem rfl)).trans rfl), gq hb114 rfl⟩⟩, ov_ixS rfl rfl rfl underlying22 sz25 ((hρ 120 (lmem rfl)).trans rfl) ((hρ 121 (lmem rfl)).trans rfl) hp157 h0158 hj159 hv160⟩) rfl rfl
                (ffc (d := 123) (v := x164) (hd_v rfl fun ρ hρ => ⟨⟨_, rfl, .inl ⟨_, ((hρ 111 (lmem rfl)).trans rfl), gq hb114 rfl⟩⟩, ov_ldV rfl underlying25 rfl rfl ((hρ 122 (lmem rfl)).trans rfl) hp163 hg165⟩) rfl rfl
                (ffc (d := 124) (v := .string s166) (hd_v rfl fun ρ hρ => ⟨⟨_, rfl, .inl ⟨_, ((hρ 111 (lmem rfl)).trans rfl), gq hb114 rfl⟩⟩, ov_toS rfl rfl underlying25 underlying9 underlying5 ((hρ 123 (lmem rfl)).trans rfl) hs167 hq168 hv169⟩) rfl rfl
                (ffc (d := 125) (v := .bool (!decide (s145 = s166))) (hd_v rfl fun ρ hρ => ⟨⟨_, rfl, .inl ⟨_, ((hρ 111 (lmem rfl)).trans rfl), gq hb114 rfl⟩⟩, opv_neS rfl rfl rfl ((hρ 119 (lmem rfl)).trans rfl) ((hρ 124 (lmem rfl)).trans rfl)⟩) rfl rfl
                (ffc (d := 126) (v := .bool (!decide (s145 = s166))) (hd_v rfl fun ρ hρ => ⟨rfl, ov_pickF rfl rfl rfl rfl ((hρ 111 (lmem rfl)).trans rfl) hb114 ((hρ 125 (lmem rfl)).trans rfl)⟩) rfl rfl
                (ffc (d := 127) (v := .bool (!decide (s145 = s166))) (hd_v rfl fun ρ hρ => ⟨rfl, opv_move rfl rfl ((hρ 126 (lmem rfl)).trans rfl)⟩) rfl rfl
                (ffc (d := 128) (v := p175) (hd_v rfl fun ρ hρ => ⟨⟨_, rfl, .inl ⟨_, ((hρ 127 (lmem rfl)).trans rfl), gq hb173 rfl⟩⟩, ov_fldA rfl rfl underlying30 rfl sz26 (by decide) ((hρ 13 (lmem rfl)).trans h13) hp178 rfl hv179⟩) rfl rfl
                (ffc (d := 129) (v := x183) (hd_v rfl fun ρ hρ => ⟨⟨_, rfl, .inl ⟨_, ((hρ 127 (lmem rfl)).trans rfl), gq hb173 rfl⟩⟩, ov_ldV rfl underlying26 rfl rfl ((hρ 128 (lmem rfl)).trans rfl) hp182 hg184⟩) rfl rfl
                (ffc (d := 130) (v := .int .u64 r78.2.2.2.2.2.2.2.2.2.2.2.2.2.2.2.2.2.1) (hd_v rfl fun ρ hρ => ⟨⟨_, rfl, .inl ⟨_, ((hρ 127 (lmem rfl)).trans rfl), gq hb173 rfl⟩⟩, opv_move rfl rfl ((hρ 15 (lmem rfl)).trans h15)⟩) rfl rfl
                (ffc (d := 131) (v := .int .u64 (IntKind.u64.wrap (r78.2.2.2.2.2.2.2.2.2.2.2.2.2.2.2.2.2.1 - 1))) (hd_v rfl fun ρ hρ => ⟨⟨_, rfl, .inl ⟨_, ((hρ 127 (lmem rfl)).trans rfl), gq hb173 rfl⟩⟩, opv_sub rfl rfl rfl ((hρ 130 (lmem rfl)).trans rfl) rfl⟩) rfl rfl
                (ffc (d := 132) (v := p185) (hd_v rfl fun ρ hρ => ⟨⟨_, rfl, .inl ⟨_, ((hρ 127 (lmem rfl)).trans rfl), gq hb173 rfl⟩⟩, ov_ixS rfl rfl rfl underlying26 sz40 ((hρ 129 (lmem rfl)).trans rfl) ((hρ 131 (lmem rfl)).trans rfl) hp190 h0191 hj192 hv193⟩) rfl rfl
                (ffc (d := 133) (v := p194) (hd_v rfl fun ρ hρ => ⟨⟨_, rfl, .inl ⟨_, ((hρ 127 (lmem rfl)).trans rfl), gq hb173 rfl⟩⟩, ov_fldA rfl rfl underlying40 rfl sz24 (by decide) ((hρ 132 (lmem rfl)).trans rfl) hp197 rfl hv198⟩) rfl rfl
                (ffc (d := 134) (v := .int .u64 x202) (hd_v rfl fun ρ hρ => ⟨⟨_, rfl, .inl ⟨_, ((hρ 127 (lmem rfl)).trans rfl), gq hb173 rfl⟩⟩, ov_ldI rfl underlying24 rfl ((hρ 133 (lmem rfl)).trans rfl) hp201 hg203⟩) rfl rfl
                (ffc (d := 135) (v := .bool (!decide (x202 = 1))) (hd_v rfl fun ρ hρ => ⟨⟨_, rfl, .inl ⟨_, ((hρ 127 (lmem rfl)).trans rfl), gq hb173 rfl⟩⟩, opv_neI rfl rfl rfl ((hρ 134 (lmem rfl)).trans rfl) rfl⟩) rfl rfl
                (ffc (d := 136) (v := .bool (!decide (x202 = 1))) (hd_v rfl fun ρ hρ => ⟨rfl, ov_pickF rfl rfl rfl rfl ((hρ 127 (lmem rfl)).trans rfl) hb173 ((hρ 135 (lmem rfl)).trans rfl)⟩) rfl rfl
                ffn)))))))))))))))))))))))))))))))))))))))))))))) ?_
              refine lt_end ?_
              refine ago_condE  E3_89 rfl rfl (fun hb204 => ?_) (fun hb204 => ?_)
              · replace H := cnd_t H hb204
                refine ago_seqE E3_90 ?_
                refine ago_regE E3_91 (l := [0]) rfl ?_
                refine lk (dt := some 6) R3_25_N rfl rfl rfl (opv_assign rfl rfl rfl) ?_
                refine aops_nil ?_
                exact ago_retE E3_92 (r := false) (ares_1 rfl (oneT rfl)) rfl H
              replace H := cnd_f H hb204
              refine ago_skipE E3_93 ?_
              refine ago_cut (fun ρ => ρ 1 = cells_1 ∧ ρ 8 = s_8 ∧ ρ 12 = .int .i64 i_12 ∧ ρ 13 = p81 ∧ True) ⟨h1, h8, h12, h13, trivial⟩ (fun ρ ⟨h1, h8, h12, h13, _⟩ => ?_)
              refine ago_regE E3_94 (l := [0, 1]) rfl ?_
              obtain ⟨b205, i206, hp207, c208, hg224, c209, hg225, c210, hg226, c211, hg227, c212, hg228, c213, hg229, c214, hg230, c215, hg231, c216, hg232, c217, hg233, c218, hg234, c219, hg235, c220, hg236, c221, hg237, c222, hg238, c223, hg239, H⟩ := H
              refine lk (dt := some 137) R3_26_N rfl rfl rfl (ov_ldN rfl underlying30 rfl sz30 rfl h13 hp207 (getN_cons hg224 (getN_cons hg225 (getN_cons hg226 (getN_cons hg227 (getN_cons hg228 (getN_cons hg229 (getN_cons hg230 (getN_cons hg231 (getN_cons hg232 (getN_cons hg233 (getN_cons hg234 (getN_cons hg235 (getN_cons hg236 (getN_cons hg237 (getN_cons hg238 (getN_cons hg239 getN_nil))))))))))))))))) ?_
              obtain ⟨b241, i242, aw240, hp243, hw244, ho245, ha246, H⟩ := H
              refine lk (dt := none) R3_26_N rfl rfl rfl (ov_st rfl rfl rfl h8 rfl rfl sz30 hp243 hw244 ho245 ha246) ?_
              refine aops_nil ?_
              refine ago_inBlock ?_
              refine ago_regE E3_95 (l := [0, 1, 2]) rfl ?_
              refine lk (dt := some 70) R3_20_N rfl rfl rfl (opv_move rfl rfl h12) ?_
              refine lk (dt := some 71) R3_20_N rfl rfl rfl (opv_add rfl rfl rfl rfl rfl) ?_
              refine lk (dt := some 12) R3_20_N rfl rfl rfl (opv_assign rfl rfl rfl) ?_
              refine aops_nil ?_
              refine ago_inLoop ?_
              exact L2 _ cells_1 s_8 (IntKind.i64.wrap (i_12 + 1)) aw240 h1 h8 rfl H
  replace H := cnd_f H hb7
  refine ago_exitE E3_73 rfl ?_
  refine ago_seqE E3_96 ?_
  refine ago_regE E3_97 (l := [0]) rfl ?_
  refine lk (dt := some 6) R3_27_N rfl rfl rfl (opv_assign rfl rfl rfl) ?_
  refine aops_nil ?_
  exact ago_retE E3_98 (r := true) (ares_1 rfl (oneT rfl)) rfl H
theorem S3_2_ok (Q : Bool → AW → Prop) (E : List PanicEntry → AW → Prop)  : ∀ (n : Nat) (ρ : Env) (cells_1 : Value) (s_8 : Value) (i_12 : Int) (aw : AW) (h1 : ρ 1 = cells_1) (h8 : ρ 8 = s_8) (h12 : ρ 12 = .int .i64 i_12), S3_2 Q E  n cells_1 s_8 i_12 aw →
    AGo prog 138 [.code C3_68, .inLoop C3_68, .inBlock 2, .code C3_96] ρ [] aw (RR prog f3 138 sh3 Q E)
  | 0, _, _, _, _, _, _, _, _ => fun H => H.elim
  | n + 1, ρ, cells_1, s_8, i_12, aw, h1, h8, h12 => fun H => S3_2s_ok Q E  _ (S3_2_ok Q E  n) ρ cells_1 s_8 i_12 aw h1 h8 h12 H
theorem S3_1s_ok (Q : Bool → AW → Prop) (E : List PanicEntry → AW → Prop)  (nx1 : Value → Int → Int → Value → Int → AW → Prop) (L1 : ∀ (ρ : Env) (cells_1 : Value) (draw_2 : Int) (k_7 : Int) (s_8 : Value) (i_10 : Int) (aw : AW) (h1 : ρ 1 = cells_1) (h2 : ρ 2 = .int .i64 draw_2) (h7 : ρ 7 = .int .i64 k_7) (h8 : ρ 8 = s_8) (h10 : ρ 10 = .int .i64 i_10), nx1 cells_1 draw_2 k_7 s_8 i_10 aw → AGo prog 138 [.code C3_27, .inLoop C3_27, .inBlock 0, .code C3_55] ρ [] aw (RR prog f3 138 sh3 Q E)) (ρ : Env) (cells_1 : Value) (draw_2 : Int) (k_7 : Int) (s_8 : Value) (i_10 : Int) (aw : AW) (h1 : ρ 1 = cells_1) (h2 : ρ 2 = .int .i64 draw_2) (h7 : ρ 7 = .int .i64 k_7) (h8 : ρ 8 = s_8) (h10 : ρ 10 = .int .i64 i_10) (H : S3_1s Q E  nx1 cells_1 draw_2 k_7 s_8 i_10 aw) :
    AGo prog 138 [.code C3_27, .inLoop C3_27, .inBlock 0, .code C3_55] ρ [] aw (RR prog f3 138 sh3 Q E) := by
  unfold S3_1s at H
  refine ago_seqE E3_27 ?_
  refine ago_seqE E3_28 ?_
  refine ago_regE E3_29 (l := [0, 1, 2]) rfl ?_
  refine lk (dt := some 36) R3_8_N rfl rfl rfl (opv_move rfl rfl h10) ?_
  refine lk (dt := some 37) R3_8_N rfl rfl rfl (opv_move rfl rfl h7) ?_
  refine lk (dt := some 38) R3_8_N rfl rfl rfl (opv_lt rfl rfl rfl rfl rfl) ?_
  refine aops_nil ?_
  refine ago_condE  E3_30 rfl rfl (fun hb247 => ?_) (fun hb247 => ?_)
  · replace H := cnd_t H hb247
    refine ago_skipE E3_31 ?_
    refine ago_seqE E3_33 ?_
    refine ago_blockE E3_34 ?_
    refine ago_seqE E3_35 ?_
    refine ago_seqE E3_36 ?_
    refine ago_regE E3_37 (l := [0, 1, 2]) rfl ?_
    obtain ⟨b249, i250, p248, hp251, hv252, H⟩ := H
    refine lk (dt := some 41) R3_10_N rfl rfl rfl (ov_fldA rfl rfl underlying30 rfl sz5 (by decide) h8 hp251 rfl hv252) ?_
    obtain ⟨b253, i254, x256, hp255, hg257, H⟩ := H
    refine lk (dt := some 42) R3_10_N rfl rfl rfl (ov_ldI rfl underlying5 rfl rfl hp255 hg257) ?_
    refine lk (dt := some 43) R3_10_N rfl rfl rfl (opv_neI rfl rfl rfl rfl rfl) ?_
    refine aops_nil ?_
    refine ago_condE  E3_38 rfl rfl (fun hb258 => ?_) (fun hb258 => ?_)
    · replace H := cnd_t H hb258
      refine ago_seqE E3_39 ?_
      refine ago_regE E3_40 (l := [0]) rfl ?_
      refine lk (dt := some 6) R3_11_N rfl rfl rfl (opv_assign rfl rfl rfl) ?_
      refine aops_nil ?_
      exact ago_retE E3_41 (r := false) (ares_1 rfl (oneT rfl)) rfl H
    replace H := cnd_f H hb258
    refine ago_skipE E3_42 ?_
    refine ago_seqE E3_43 ?_
    refine ago_regE E3_44 (l := [0]) rfl ?_
    refine lk (dt := some 11) R3_12_N rfl rfl rfl (opv_assign rfl rfl rfl) ?_
    refine aops_nil ?_
    refine ago_seqE E3_45 ?_
    refine ago_regE E3_46 (l := [0, 1, 2, 3, 4, 5, 6, 7]) rfl ?_
    obtain ⟨b259, i260, hp261, c262, hg278, c263, hg279, c264, hg280, c265, hg281, c266, hg282, c267, hg283, c268, hg284, c269, hg285, c270, hg286, c271, hg287, c272, hg288, c273, hg289, c274, hg290, c275, hg291, c276, hg292, c277, hg293, H⟩ := H
    refine lk (dt := some 45) R3_13_N rfl rfl rfl (ov_ldN rfl underlying30 rfl sz30 rfl h8 hp261 (getN_cons hg278 (getN_cons hg279 (getN_cons hg280 (getN_cons hg281 (getN_cons hg282 (getN_cons hg283 (getN_cons hg284 (getN_cons hg285 (getN_cons hg286 (getN_cons hg287 (getN_cons hg288 (getN_cons hg289 (getN_cons hg290 (getN_cons hg291 (getN_cons hg292 (getN_cons hg293 getN_nil))))))))))))))))) ?_
    refine lk (dt := some 46) R3_13_N rfl rfl rfl (opv_move rfl rfl h2) ?_
    refine lk_call (dt := some 47) R3_13_N rfl rfl rfl (opc_of rfl rfl is9 (ma_cons rfl (ma_cons rfl rfl))) H (fun _ _ h => ⟨rfl, h⟩) fun r294 aw295 H => ?_
    refine lk (dt := some 44) R3_13_N rfl rfl rfl (opv_move rfl rfl rfl) ?_
    refine lk (dt := some 48) R3_13_N rfl rfl rfl (opv_extract rfl rfl rfl rfl) ?_
    refine lk (dt := some 49) R3_13_N rfl rfl rfl (opv_extract rfl rfl rfl rfl) ?_
    obtain ⟨b297, i298, aw296, hp299, hw300, ho301, ha302, H⟩ := H
    refine lk (dt := none) R3_13_N rfl rfl rfl (ov_st rfl rfl rfl h8 rfl rfl sz30 hp299 hw300 ho301 ha302) ?_
    refine lk (dt := some 11) R3_13_N rfl rfl rfl (opv_assign rfl rfl rfl) ?_
    refine aops_nil ?_
    refine ago_seqE E3_47 ?_
    refine ago_cut (fun ρ => ρ 1 = cells_1 ∧ ρ 2 = .int .i64 draw_2 ∧ ρ 7 = .int .i64 k_7 ∧ ρ 8 = s_8 ∧ ρ 10 = .int .i64 i_10 ∧ ρ 11 = r294.2.2.2.2.2.2.2.2.2.2.2.2.2.2.2.2 ∧ True) ⟨h1, h2, h7, h8, h10, rfl, trivial⟩ (fun ρ ⟨h1, h2, h7, h8, h10, h11, _⟩ => ?_)
    refine ago_regE E3_48 (l := [0, 1, 2]) rfl ?_
    refine lk (dt := some 50) R3_14_N rfl rfl rfl (opv_move rfl rfl h11) ?_
    obtain ⟨q304, l305, c306, n303, hv307, hn308, H⟩ := H
    refine lk (dt := some 51) R3_14_N rfl rfl rfl (ov_len rfl rfl rfl underlying34 rfl hv307 hn308) ?_
    refine lk (dt := some 52) R3_14_N rfl rfl rfl (opv_gt rfl rfl rfl rfl rfl) ?_
    refine aops_nil ?_
    refine ago_condE  E3_49 rfl rfl (fun hb309 => ?_) (fun hb309 => ?_)
    · replace H := cnd_t H hb309
      refine ago_seqE E3_50 ?_
      refine ago_regE E3_51 (l := [0]) rfl ?_
      refine lk (dt := some 6) R3_15_N rfl rfl rfl (opv_assign rfl rfl rfl) ?_
      refine aops_nil ?_
      exact ago_retE E3_52 (r := false) (ares_1 rfl (oneT rfl)) rfl H
    replace H := cnd_f H hb309
    refine ago_skipE E3_53 ?_
    refine ago_inBlock ?_
    refine ago_regE E3_54 (l := [0, 1, 2]) rfl ?_
    refine lk (dt := some 39) R3_9_N rfl rfl rfl (opv_move rfl rfl h10) ?_
    refine lk (dt := some 40) R3_9_N rfl rfl rfl (opv_add rfl rfl rfl rfl rfl) ?_
    refine lk (dt := some 10) R3_9_N rfl rfl rfl (opv_assign rfl rfl rfl) ?_
    refine aops_nil ?_
    refine ago_inLoop ?_
    exact L1 _ cells_1 draw_2 k_7 s_8 (IntKind.i64.wrap (i_10 + 1)) aw296 h1 h2 h7 h8 rfl H
  replace H := cnd_f H hb247
  refine ago_exitE E3_32 rfl ?_
  refine ago_seqE E3_55 ?_
  refine ago_seqE E3_56 ?_
  refine ago_regE E3_57 (l := [0, 1, 2, 3, 4, 5, 6, 7, 8, 9, 10, 11, 12]) rfl ?_
  obtain ⟨b311, i312, p310, hp313, hv314, H⟩ := H
  refine lk (dt := some 53) R3_16_N rfl rfl rfl (ov_fldA rfl rfl underlying30 rfl sz5 (by decide) h8 hp313 rfl hv314) ?_
  obtain ⟨b315, i316, x318, hp317, hg319, H⟩ := H
  refine lk (dt := some 54) R3_16_N rfl rfl rfl (ov_ldI rfl underlying5 rfl rfl hp317 hg319) ?_
  refine lk (dt := some 55) R3_16_N rfl rfl rfl (opv_neI rfl rfl rfl rfl rfl) ?_
  refine lk (dt := some 56) R3_16_N rfl rfl rfl (opv_move rfl rfl rfl) ?_
  rcases Bool.eq_false_or_eq_true (!decide (x318 = 2)) with hb320 | hb320
  · replace H := cnd_t H hb320
    refine lk_skip (dt := some 57) R3_16_N rfl rfl ⟨_, rfl, .inl ⟨_, rfl, gq hb320 rfl⟩⟩ ?_
    refine lk_skip (dt := some 58) R3_16_N rfl rfl ⟨_, rfl, .inl ⟨_, rfl, gq hb320 rfl⟩⟩ ?_
    refine lk_skip (dt := some 59) R3_16_N rfl rfl ⟨_, rfl, .inl ⟨_, rfl, gq hb320 rfl⟩⟩ ?_
    refine lk (dt := some 60) R3_16_N rfl rfl rfl (ov_pickT rfl rfl rfl rfl rfl hb320 rfl) ?_
    refine lk (dt := some 61) R3_16_N rfl rfl rfl (opv_move rfl rfl rfl) ?_
    refine lk_skip (dt := some 62) R3_16_N rfl rfl ⟨_, rfl, .inl ⟨_, rfl, gq rfl rfl⟩⟩ ?_
    refine lk_skip (dt := some 63) R3_16_N rfl rfl ⟨_, rfl, .inl ⟨_, rfl, gq rfl rfl⟩⟩ ?_
    refine lk_skip (dt := some 64) R3_16_N rfl rfl ⟨_, rfl, .inl ⟨_, rfl, gq rfl rfl⟩⟩ ?_
    refine lk (dt := some 65) R3_16_N rfl rfl rfl (ov_pickT rfl rfl rfl rfl rfl rfl rfl) ?_
    refine aops_nil ?_
    refine ago_condE  E3_58 rfl rfl (fun h => ?_) (fun h => tf h)
    refine ago_seqE E3_59 ?_
    refine ago_regE E3_60 (l := [0]) rfl ?_
    refine lk (dt := some 6) R3_17_N rfl rfl rfl (opv_assign rfl rfl rfl) ?_
    refine aops_nil ?_
    exact ago_retE E3_61 (r := false) (ares_1 rfl (oneT rfl)) rfl H
  · replace H := cnd_f H hb320
    obtain ⟨b323, i324, p322, hp325, hv326, H⟩ := H
    refine lk (dt := some 57) R3_16_N rfl rfl ⟨_, rfl, .inl ⟨_, rfl, gq hb320 rfl⟩⟩ (ov_fldA rfl rfl underlying30 rfl sz24 (by decide) h8 hp325 rfl hv326) ?_
    obtain ⟨b327, i328, x330, hp329, hg331, H⟩ := H
    refine lk (dt := some 58) R3_16_N rfl rfl ⟨_, rfl, .inl ⟨_, rfl, gq hb320 rfl⟩⟩ (ov_ldI rfl underlying24 rfl rfl hp329 hg331) ?_
    refine lk (dt := some 59) R3_16_N rfl rfl ⟨_, rfl, .inl ⟨_, rfl, gq hb320 rfl⟩⟩ (opv_neI rfl rfl rfl rfl rfl) ?_
    refine lk (dt := some 60) R3_16_N rfl rfl rfl (ov_pickF rfl rfl rfl rfl rfl hb320 rfl) ?_
    refine lk (dt := some 61) R3_16_N rfl rfl rfl (opv_move rfl rfl rfl) ?_
    rcases Bool.eq_false_or_eq_true (!decide (x330 = 1)) with hb332 | hb332
    · replace H := cnd_t H hb332
      refine lk_skip (dt := some 62) R3_16_N rfl rfl ⟨_, rfl, .inl ⟨_, rfl, gq hb332 rfl⟩⟩ ?_
      refine lk_skip (dt := some 63) R3_16_N rfl rfl ⟨_, rfl, .inl ⟨_, rfl, gq hb332 rfl⟩⟩ ?_
      refine lk_skip (dt := some 64) R3_16_N rfl rfl ⟨_, rfl, .inl ⟨_, rfl, gq hb332 rfl⟩⟩ ?_
      refine lk (dt := some 65) R3_16_N rfl rfl rfl (ov_pickT rfl rfl rfl rfl rfl hb332 rfl) ?_
      refine aops_nil ?_
      refine ago_condE  E3_58 rfl rfl (fun h => ?_) (fun h => tf h)
      refine ago_seqE E3_59 ?_
      refine ago_regE E3_60 (l := [0]) rfl ?_
      refine lk (dt := some 6) R3_17_N rfl rfl rfl (opv_assign rfl rfl rfl) ?_
      refine aops_nil ?_
      exact ago_retE E3_61 (r := false) (ares_1 rfl (oneT rfl)) rfl H
    · replace H := cnd_f H hb332
      obtain ⟨b335, i336, p334, hp337, hv338, H⟩ := H
      refine lk (dt := some 62) R3_16_N rfl rfl ⟨_, rfl, .inl ⟨_, rfl, gq hb332 rfl⟩⟩ (ov_fldA rfl rfl underlying30 rfl sz24 (by decide) h8 hp337 rfl hv338) ?_
      obtain ⟨b339, i340, x342, hp341, hg343, H⟩ := H
      refine lk (dt := some 63) R3_16_N rfl rfl ⟨_, rfl, .inl ⟨_, rfl, gq hb332 rfl⟩⟩ (ov_ldI rfl underlying24 rfl rfl hp341 hg343) ?_
      refine lk (dt := some 64) R3_16_N rfl rfl ⟨_, rfl, .inl ⟨_, rfl, gq hb332 rfl⟩⟩ (opv_neI rfl rfl rfl rfl rfl) ?_
      refine lk (dt := some 65) R3_16_N rfl rfl rfl (ov_pickF rfl rfl rfl rfl rfl hb332 rfl) ?_
      refine aops_nil ?_
      refine ago_condE  E3_58 rfl rfl (fun hb344 => ?_) (fun hb344 => ?_)
      · replace H := cnd_t H hb344
        refine ago_seqE E3_59 ?_
        refine ago_regE E3_60 (l := [0]) rfl ?_
        refine lk (dt := some 6) R3_17_N rfl rfl rfl (opv_assign rfl rfl rfl) ?_
        refine aops_nil ?_
        exact ago_retE E3_61 (r := false) (ares_1 rfl (oneT rfl)) rfl H
      replace H := cnd_f H hb344
      refine ago_skipE E3_62 ?_
      refine ago_seqE E3_63 ?_
      refine ago_seqE E3_64 ?_
      refine ago_cut (fun ρ => ρ 1 = cells_1 ∧ ρ 8 = s_8 ∧ True) ⟨h1, h8, trivial⟩ (fun ρ ⟨h1, h8, _⟩ => ?_)
      refine ago_regE E3_65 (l := [0]) rfl ?_
      refine lk (dt := some 12) R3_18_N rfl rfl rfl (opv_assign rfl rfl rfl) ?_
      refine aops_nil ?_
      refine ago_blockE E3_66 ?_
      refine ago_loopE E3_67 ?_
      obtain ⟨n, H⟩ := H
      exact S3_2_ok Q E  n _ cells_1 s_8 0 aw h1 h8 rfl H
theorem S3_1_ok (Q : Bool → AW → Prop) (E : List PanicEntry → AW → Prop)  : ∀ (n : Nat) (ρ : Env) (cells_1 : Value) (draw_2 : Int) (k_7 : Int) (s_8 : Value) (i_10 : Int) (aw : AW) (h1 : ρ 1 = cells_1) (h2 : ρ 2 = .int .i64 draw_2) (h7 : ρ 7 = .int .i64 k_7) (h8 : ρ 8 = s_8) (h10 : ρ 10 = .int .i64 i_10), S3_1 Q E  n cells_1 draw_2 k_7 s_8 i_10 aw →
    AGo prog 138 [.code C3_27, .inLoop C3_27, .inBlock 0, .code C3_55] ρ [] aw (RR prog f3 138 sh3 Q E)
  | 0, _, _, _, _, _, _, _, _, _, _, _, _ => fun H => H.elim
  | n + 1, ρ, cells_1, draw_2, k_7, s_8, i_10, aw, h1, h2, h7, h8, h10 => fun H => S3_1s_ok Q E  _ (S3_1_ok Q E  n) ρ cells_1 draw_2 k_7 s_8 i_10 aw h1 h2 h7 h8 h10 H
theorem S3_0_ok (Q : Bool → AW → Prop) (E : List PanicEntry → AW → Prop)  (ρ : Env) (wait_0 : Int) (cells_1 : Value) (draw_2 : Int) (aw : AW) (h0 : ρ 0 = .int .u8 wait_0) (h1 : ρ 1 = cells_1) (h2 : ρ 2 = .int .i64 draw_2) (H : S3_0 Q E  wait_0 cells_1 draw_2 aw) :
    AGo prog 138 [.code C3_0] ρ [] aw (RR prog f3 138 sh3 Q E) := by
  unfold S3_0 at H
  refine ago_seqE E3_0 ?_
  refine ago_regE E3_1 (l := [0]) rfl ?_
  refine lk (dt := some 6) R3_0_N rfl rfl rfl (opv_assign rfl rfl rfl) ?_
  refine aops_nil ?_
  refine ago_seqE E3_2 ?_
  refine ago_seqE E3_3 ?_
  refine ago_regE E3_4 (l := [0, 1, 2, 3, 4, 5, 6]) rfl ?_
  refine lk_call (dt := some 17) R3_1_N rfl rfl rfl (opc_of rfl rfl is7 rfl) H (fun _ _ h => ⟨rfl, h⟩) fun r345 aw346 H => ?_
  refine lk (dt := some 18) R3_1_N rfl rfl rfl (opv_not rfl rfl rfl) ?_
  refine lk (dt := some 19) R3_1_N rfl rfl rfl (opv_move rfl rfl rfl) ?_
  rcases Bool.eq_false_or_eq_true (!r345) with hb347 | hb347
  · replace H := cnd_t H hb347
    refine lk_skip (dt := some 20) R3_1_N rfl rfl ⟨_, rfl, .inl ⟨_, rfl, gq hb347 rfl⟩⟩ ?_
    refine lk_skip (dt := some 21) R3_1_N rfl rfl ⟨_, rfl, .inl ⟨_, rfl, gq hb347 rfl⟩⟩ ?_
    refine lk_skip (dt := some 22) R3_1_N rfl rfl ⟨_, rfl, .inl ⟨_, rfl, gq hb347 rfl⟩⟩ ?_
    refine lk (dt := some 23) R3_1_N rfl rfl rfl (ov_pickT rfl rfl rfl rfl rfl hb347 rfl) ?_
    refine aops_nil ?_
    refine ago_condE  E3_5 rfl rfl (fun h => ?_) (fun h => tf h)
    refine ago_seqE E3_6 ?_
    refine ago_regE E3_7 (l := [0, 1]) rfl ?_
    refine lk_call (dt := some 24) R3_2_N rfl rfl rfl (opc_of rfl rfl is7 rfl) H (fun _ _ h => ⟨rfl, h⟩) fun r349 aw350 H => ?_
    refine lk (dt := some 6) R3_2_N rfl rfl rfl (opv_assign rfl rfl rfl) ?_
    refine aops_nil ?_
    exact ago_retE E3_8 (r := r349) (ares_1 rfl (oneT rfl)) rfl H
  · replace H := cnd_f H hb347
    refine lk (dt := some 20) R3_1_N rfl rfl ⟨_, rfl, .inl ⟨_, rfl, gq hb347 rfl⟩⟩ (opv_move rfl rfl h1) ?_
    obtain ⟨q352, l353, c354, n351, hv355, hn356, H⟩ := H
    refine lk (dt := some 21) R3_1_N rfl rfl ⟨_, rfl, .inl ⟨_, rfl, gq hb347 rfl⟩⟩ (ov_len rfl rfl rfl underlying22 rfl hv355 hn356) ?_
    refine lk (dt := some 22) R3_1_N rfl rfl ⟨_, rfl, .inl ⟨_, rfl, gq hb347 rfl⟩⟩ (opv_gt rfl rfl rfl rfl rfl) ?_
    refine lk (dt := some 23) R3_1_N rfl rfl rfl (ov_pickF rfl rfl rfl rfl rfl hb347 rfl) ?_
    refine aops_nil ?_
    refine ago_condE  E3_5 rfl rfl (fun hb357 => ?_) (fun hb357 => ?_)
    · replace H := cnd_t H hb357
      refine ago_seqE E3_6 ?_
      refine ago_regE E3_7 (l := [0, 1]) rfl ?_
      refine lk_call (dt := some 24) R3_2_N rfl rfl rfl (opc_of rfl rfl is7 rfl) H (fun _ _ h => ⟨rfl, h⟩) fun r358 aw359 H => ?_
      refine lk (dt := some 6) R3_2_N rfl rfl rfl (opv_assign rfl rfl rfl) ?_
      refine aops_nil ?_
      exact ago_retE E3_8 (r := r358) (ares_1 rfl (oneT rfl)) rfl H
    replace H := cnd_f H hb357
    refine ago_skipE E3_9 ?_
    refine ago_seqE E3_10 ?_
    refine ago_regE E3_11 (l := [0, 1, 2, 3, 4]) rfl ?_
    refine lk (dt := some 25) R3_3_N rfl rfl rfl (opv_move rfl rfl h0) ?_
    refine lk (dt := some 26) R3_3_N rfl rfl rfl (opv_conv rfl rfl underlying5 underlying3 rfl) ?_
    refine lk (dt := some 27) R3_3_N rfl rfl rfl (opv_rem rfl rfl rfl rfl rfl (by decide)) ?_
    refine lk (dt := some 28) R3_3_N rfl rfl rfl (opv_add rfl rfl rfl rfl rfl) ?_
    refine lk (dt := some 7) R3_3_N rfl rfl rfl (opv_assign rfl rfl rfl) ?_
    refine aops_nil ?_
    refine ago_seqE E3_12 ?_
    refine ago_cut (fun ρ => ρ 1 = cells_1 ∧ ρ 2 = .int .i64 draw_2 ∧ ρ 7 = .int .i64 (IntKind.i64.wrap (2 + (Int.tmod (IntKind.i64.wrap wait_0) 50))) ∧ True) ⟨h1, h2, rfl, trivial⟩ (fun ρ ⟨h1, h2, h7, _⟩ => ?_)
    refine ago_regE E3_13 (l := [0, 1, 2, 3, 4, 5, 6, 7]) rfl ?_
    refine lk (dt := some 30) R3_4_N rfl rfl rfl (opv_move rfl rfl h7) ?_
    refine lk_call (dt := some 31) R3_4_N rfl rfl rfl (opc_of rfl rfl is8 (ma_cons rfl (ma_cons rfl (ma_cons rfl rfl)))) H (fun _ _ h => ⟨rfl, h⟩) fun r360 aw361 H => ?_
    refine lk (dt := some 29) R3_4_N rfl rfl rfl (opv_move rfl rfl rfl) ?_
    refine lk (dt := some 32) R3_4_N rfl rfl rfl (opv_extract rfl rfl rfl rfl) ?_
    refine lk (dt := some 33) R3_4_N rfl rfl rfl (opv_extract rfl rfl rfl rfl) ?_
    obtain ⟨p362, aw363, hp364, ha365, H⟩ := H
    refine lk (dt := some 8) R3_4_N rfl rfl rfl (ov_alloc rfl z30 rfl rfl hp364 ha365) ?_
    obtain ⟨b367, i368, aw366, hp369, hw370, ho371, ha372, H⟩ := H
    refine lk (dt := none) R3_4_N rfl rfl rfl (ov_st rfl rfl rfl rfl rfl rfl sz30 hp369 hw370 ho371 ha372) ?_
    refine lk (dt := some 9) R3_4_N rfl rfl rfl (opv_assign rfl rfl rfl) ?_
    refine aops_nil ?_
    refine ago_seqE E3_14 ?_
    refine ago_seqE E3_15 ?_
    refine ago_regE E3_16 (l := [0, 1]) rfl ?_
    refine lk (dt := some 34) R3_5_N rfl rfl rfl (opv_move rfl rfl rfl) ?_
    refine lk (dt := some 35) R3_5_N rfl rfl rfl (opv_neI rfl rfl rfl rfl rfl) ?_
    refine aops_nil ?_
    refine ago_condE  E3_17 rfl rfl (fun hb373 => ?_) (fun hb373 => ?_)
    · replace H := cnd_t H hb373
      refine ago_seqE E3_18 ?_
      refine ago_regE E3_19 (l := [0]) rfl ?_
      refine lk (dt := some 6) R3_6_N rfl rfl rfl (opv_assign rfl rfl rfl) ?_
      refine aops_nil ?_
      exact ago_retE E3_20 (r := false) (ares_1 rfl (oneT rfl)) rfl H
    replace H := cnd_f H hb373
    refine ago_skipE E3_21 ?_
    refine ago_seqE E3_22 ?_
    refine ago_seqE E3_23 ?_
    refine ago_regE E3_24 (l := [0]) rfl ?_
    refine lk (dt := some 10) R3_7_N rfl rfl rfl (opv_assign rfl rfl rfl) ?_
    refine aops_nil ?_
    refine ago_blockE E3_25 ?_
    refine ago_loopE E3_26 ?_
    obtain ⟨n, H⟩ := H
    exact S3_1_ok Q E  n _ cells_1 draw_2 (IntKind.i64.wrap (2 + (Int.tmod (IntKind.i64.wrap wait_0) 50))) p362 0 aw366 h1 h2 h7 rfl rfl H
theorem F3_ok {Q : Bool → AW → Prop} {E : List PanicEntry → AW → Prop} (wait_0 : Int) (cells_1 : Value) (draw_2 : Int) (aw : AW) (H : S3_0 Q E wait_0 cells_1 draw_2 aw) : CallP prog 3 [.int .u8 wait_0, cells_1, .int .i64 draw_2] aw sh3 Q E :=
  callP_of func3 C3_is rfl (Nat.le_of_ble_eq_true rfl) (S3_0_ok Q E _ wait_0 cells_1 draw_2 aw rfl rfl rfl H)
end
end Go.Proofs.Try
