/- Printed by a program of the prover: what the Go functions of this seat do, in steps. -/
import Derived.Test.YtfoceofohlpafaaDoorMaF
set_option linter.unusedSectionVars false
set_option linter.unusedSimpArgs false
set_option linter.unusedVariables false
namespace Go.Proofs.Tryd
open Go Go.Am Go.RowKit
set_option maxHeartbeats 4000000
set_option maxRecDepth 100000
noncomputable section
variable [SymE]
def C58_0 : Code := bodyOf f58
theorem C58_is : f58.body = some C58_0 := by kernel_rfl
def C58_1 : Code := cl C58_0
def R58_0 : Array Oper := regOps C58_1
def C58_2 : Code := cr C58_0
def C58_3 : Code := cl C58_2
def R58_1 : Array Oper := regOps C58_3
def C58_4 : Code := cr C58_2
def C58_5 : Code := cl C58_4
def R58_2 : Array Oper := regOps C58_5
def C58_6 : Code := cr C58_4
def C58_7 : Code := cl C58_6
def R58_3 : Array Oper := regOps C58_7
def C58_8 : Code := cr C58_6
def C58_9 : Code := cl C58_8
def C58_10 : Code := cl C58_9
def R58_5 : Array Oper := regOps C58_10
def C58_11 : Code := cr C58_9
def C58_12 : Code := cl C58_11
def R58_6 : Array Oper := regOps C58_12
def C58_13 : Code := cr C58_11
def C58_14 : Code := cl C58_13
def R58_7 : Array Oper := regOps C58_14
def C58_15 : Code := cr C58_13
def C58_16 : Code := cl C58_15
def R58_8 : Array Oper := regOps C58_16
def C58_17 : Code := cr C58_15
def C58_18 : Code := cl C58_17
def R58_9 : Array Oper := regOps C58_18
def C58_19 : Code := cr C58_17
def C58_20 : Code := cl C58_19
def R58_10 : Array Oper := regOps C58_20
def C58_21 : Code := cr C58_19
def C58_22 : Code := cl C58_21
def R58_11 : Array Oper := regOps C58_22
def C58_23 : Code := cr C58_21
def C58_24 : Code := cl C58_23
def R58_12 : Array Oper := regOps C58_24
def C58_25 : Code := cr C58_23
def C58_26 : Code := cl C58_25
def R58_13 : Array Oper := regOps C58_26
def C58_27 : Code := cr C58_25
def C58_28 : Code := cl C58_27
def R58_14 : Array Oper := regOps C58_28
def C58_29 : Code := cr C58_27
def C58_30 : Code := cl C58_29
def R58_15 : Array Oper := regOps C58_30
def C58_31 : Code := cr C58_29
def C58_32 : Code := cl C58_31
def R58_16 : Array Oper := regOps C58_32
def C58_33 : Code := cr C58_31
def C58_34 : Code := cl C58_33
def R58_17 : Array Oper := regOps C58_34
def C58_35 : Code := cr C58_33
def C58_36 : Code := cl C58_35
def R58_18 : Array Oper := regOps C58_36
def C58_37 : Code := cr C58_35
def C58_38 : Code := cl C58_37
def R58_19 : Array Oper := regOps C58_38
def C58_39 : Code := cr C58_37
def C58_40 : Code := cl C58_39
def R58_20 : Array Oper := regOps C58_40
def C58_41 : Code := cr C58_39
def C58_42 : Code := cl C58_41
def R58_21 : Array Oper := regOps C58_42
def C58_43 : Code := cr C58_41
def C58_44 : Code := cl C58_43
def C58_45 : Code := cl C58_44
def R58_22 : Array Oper := regOps C58_45
def C58_46 : Code := cr C58_44
def C58_47 : Code := cl C58_46
def R58_23 : Array Oper := regOps C58_47
def C58_48 : Code := cr C58_46
def R58_24 : Array Oper := regOps C58_48
def C58_49 : Code := cr C58_43
def C58_50 : Code := cl C58_49
def R58_25 : Array Oper := regOps C58_50
def C58_51 : Code := cr C58_49
def C58_52 : Code := cl C58_51
def R58_26 : Array Oper := regOps C58_52
def C58_53 : Code := cr C58_51
def C58_54 : Code := cl C58_53
def R58_27 : Array Oper := regOps C58_54
def C58_55 : Code := cr C58_53
def C58_56 : Code := cl C58_55
def R58_28 : Array Oper := regOps C58_56
def C58_57 : Code := cr C58_55
def C58_58 : Code := cl C58_57
def R58_29 : Array Oper := regOps C58_58
def C58_59 : Code := cr C58_57
def C58_60 : Code := cl C58_59
def R58_30 : Array Oper := regOps C58_60
def C58_61 : Code := cr C58_59
def C58_62 : Code := cl C58_61
def R58_31 : Array Oper := regOps C58_62
def C58_63 : Code := cr C58_61
def C58_64 : Code := cl C58_63
def C58_65 : Code := cl C58_64
def R58_32 : Array Oper := regOps C58_65
def C58_66 : Code := cr C58_64
def C58_67 : Code := cl C58_66
def R58_33 : Array Oper := regOps C58_67
def C58_68 : Code := cr C58_66
def C58_69 : Code := cr C58_63
def C58_70 : Code := cl C58_69
def R58_34 : Array Oper := regOps C58_70
def C58_71 : Code := cr C58_69
def C58_72 : Code := cl C58_71
def C58_73 : Code := cl C58_72
def R58_35 : Array Oper := regOps C58_73
def C58_74 : Code := cr C58_72
def R58_36 : Array Oper := regOps C58_74
def C58_75 : Code := cr C58_71
def C58_76 : Code := cl C58_75
def R58_37 : Array Oper := regOps C58_76
def C58_77 : Code := cr C58_75
def C58_78 : Code := cl C58_77
def R58_38 : Array Oper := regOps C58_78
def C58_79 : Code := cr C58_77
def C58_80 : Code := cl C58_79
def R58_39 : Array Oper := regOps C58_80
def C58_81 : Code := cr C58_79
def C58_82 : Code := cl C58_81
def R58_40 : Array Oper := regOps C58_82
def C58_83 : Code := cr C58_81
def C58_84 : Code := cl C58_83
def R58_41 : Array Oper := regOps C58_84
def C58_85 : Code := cr C58_83
def C58_86 : Code := cl C58_85
def R58_42 : Array Oper := regOps C58_86
def C58_87 : Code := cr C58_85
def C58_88 : Code := cl C58_87
def R58_43 : Array Oper := regOps C58_88
def C58_89 : Code := cr C58_87
def C58_90 : Code := cl C58_89
def R58_44 : Array Oper := regOps C58_90
def C58_91 : Code := cr C58_89
def C58_92 : Code := cl C58_91
def R58_45 : Array Oper := regOps C58_92
def C58_93 : Code := cr C58_91
def C58_94 : Code := cl C58_93
def R58_46 : Array Oper := regOps C58_94
def C58_95 : Code := cr C58_93
def C58_96 : Code := cl C58_95
def R58_47 : Array Oper := regOps C58_96
def C58_97 : Code := cr C58_95
def C58_98 : Code := cl C58_97
def R58_48 : Array Oper := regOps C58_98
def C58_99 : Code := cr C58_97
def C58_100 : Code := cl C58_99
def R58_49 : Array Oper := regOps C58_100
def C58_101 : Code := cr C58_99
def C58_102 : Code := cl C58_101
def R58_50 : Array Oper := regOps C58_102
def C58_103 : Code := cr C58_101
def C58_104 : Code := cl C58_103
def R58_51 : Array Oper := regOps C58_104
def C58_105 : Code := cr C58_103
def C58_106 : Code := cl C58_105
def R58_52 : Array Oper := regOps C58_106
def C58_107 : Code := cr C58_105
def R58_4 : Array Oper := regOps C58_107
theorem R58_0_N : dstsOk 303 R58_0 = true := by decide +kernel
theorem R58_0_O : linOk R58_0 [0, 1, 2, 3, 4, 5, 6, 7, 8, 9, 10, 11] [] = true := by decide +kernel
theorem E58_1 : C58_1 = .region 0 R58_0 true := rfl
theorem R58_1_N : dstsOk 303 R58_1 = true := by decide +kernel
theorem R58_1_O : linOk R58_1 [0, 1, 2, 3, 4, 5, 6, 7, 8, 9, 10, 11, 12, 13, 14, 15, 16] [(17, [0, 1, 2, 3, 4, 5, 6, 7, 8, 9, 10, 11, 12, 13, 14, 15, 16], []), (18, [], [])] = true := by decide +kernel
theorem E58_3 : C58_3 = .region 1 R58_1 true := rfl
theorem R58_2_N : dstsOk 303 R58_2 = true := by decide +kernel
theorem E58_5 : C58_5 = .region 2 R58_2 false := rfl
theorem R58_3_N : dstsOk 303 R58_3 = true := by decide +kernel
theorem E58_7 : C58_7 = .region 3 R58_3 false := rfl
theorem R58_5_N : dstsOk 303 R58_5 = true := by decide +kernel
theorem E58_10 : C58_10 = .region 5 R58_5 false := rfl
theorem R58_6_N : dstsOk 303 R58_6 = true := by decide +kernel
theorem E58_12 : C58_12 = .region 6 R58_6 false := rfl
theorem R58_7_N : dstsOk 303 R58_7 = true := by decide +kernel
theorem E58_14 : C58_14 = .region 7 R58_7 false := rfl
theorem R58_8_N : dstsOk 303 R58_8 = true := by decide +kernel
theorem E58_16 : C58_16 = .region 8 R58_8 false := rfl
theorem R58_9_N : dstsOk 303 R58_9 = true := by decide +kernel
theorem E58_18 : C58_18 = .region 9 R58_9 false := rfl
theorem R58_10_N : dstsOk 303 R58_10 = true := by decide +kernel
theorem R58_10_O : linOk R58_10 [0, 1, 2, 3, 4, 5, 6, 7, 8, 9, 10, 11, 12, 13] [(14, [], [])] = true := by decide +kernel
theorem E58_20 : C58_20 = .region 10 R58_10 true := rfl
theorem R58_11_N : dstsOk 303 R58_11 = true := by decide +kernel
theorem E58_22 : C58_22 = .region 11 R58_11 false := rfl
theorem R58_12_N : dstsOk 303 R58_12 = true := by decide +kernel
theorem R58_12_O : linOk R58_12 [0, 1, 2, 3, 4, 5, 6, 7, 8, 9, 10, 11, 12, 13, 14, 15] [(16, [0], []), (17, [], [])] = true := by decide +kernel
theorem E58_24 : C58_24 = .region 12 R58_12 true := rfl
theorem R58_13_N : dstsOk 303 R58_13 = true := by decide +kernel
theorem E58_26 : C58_26 = .region 13 R58_13 false := rfl
theorem R58_14_N : dstsOk 303 R58_14 = true := by decide +kernel
theorem R58_14_O : linOk R58_14 [0, 1, 2, 3, 4, 5, 6, 7, 8, 9, 10, 11] [(12, [], [])] = true := by decide +kernel
theorem E58_28 : C58_28 = .region 14 R58_14 true := rfl
theorem R58_15_N : dstsOk 303 R58_15 = true := by decide +kernel
theorem E58_30 : C58_30 = .region 15 R58_15 false := rfl
theorem R58_16_N : dstsOk 303 R58_16 = true := by decide +kernel
theorem R58_16_O : linOk R58_16 [0, 1, 2, 3, 4, 5, 6, 7, 8] [(9, [], [])] = true := by decide +kernel
theorem E58_32 : C58_32 = .region 16 R58_16 true := rfl
theorem R58_17_N : dstsOk 303 R58_17 = true := by decide +kernel
theorem E58_34 : C58_34 = .region 17 R58_17 false := rfl
theorem R58_18_N : dstsOk 303 R58_18 = true := by decide +kernel
theorem R58_18_O : linOk R58_18 [0, 1, 2, 3, 4] [(5, [0, 1, 2], []), (6, [0, 1, 2], []), (7, [], [])] = true := by decide +kernel
theorem E58_36 : C58_36 = .region 18 R58_18 true := rfl
theorem R58_19_N : dstsOk 303 R58_19 = true := by decide +kernel
theorem E58_38 : C58_38 = .region 19 R58_19 false := rfl
theorem R58_20_N : dstsOk 303 R58_20 = true := by decide +kernel
theorem E58_40 : C58_40 = .region 20 R58_20 false := rfl
theorem R58_21_N : dstsOk 303 R58_21 = true := by decide +kernel
theorem E58_42 : C58_42 = .region 21 R58_21 false := rfl
theorem R58_22_N : dstsOk 303 R58_22 = true := by decide +kernel
theorem E58_45 : C58_45 = .region 22 R58_22 false := rfl
theorem R58_23_N : dstsOk 303 R58_23 = true := by decide +kernel
theorem R58_23_O : linOk R58_23 [0, 1, 2, 3, 4, 5, 6, 7, 8, 9, 10, 11] [(12, [0, 1, 2, 3, 4, 5, 6, 7, 8, 9, 10], []), (13, [0], [14, 15]), (16, [], [])] = true := by decide +kernel
theorem E58_47 : C58_47 = .region 23 R58_23 true := rfl
theorem R58_24_N : dstsOk 303 R58_24 = true := by decide +kernel
theorem R58_24_O : linOk R58_24 [0, 1, 2, 3, 4, 5, 6, 7, 8, 9, 10, 11, 12, 13] [(14, [], [])] = true := by decide +kernel
theorem E58_48 : C58_48 = .region 24 R58_24 true := rfl
theorem E58_46 : C58_46 = .seq C58_47 C58_48 := rfl
theorem E58_44 : C58_44 = .seq C58_45 C58_46 := rfl
theorem R58_25_N : dstsOk 303 R58_25 = true := by decide +kernel
theorem E58_50 : C58_50 = .region 25 R58_25 false := rfl
theorem R58_26_N : dstsOk 303 R58_26 = true := by decide +kernel
theorem E58_52 : C58_52 = .region 26 R58_26 false := rfl
theorem R58_27_N : dstsOk 303 R58_27 = true := by decide +kernel
theorem E58_54 : C58_54 = .region 27 R58_27 false := rfl
theorem R58_28_N : dstsOk 303 R58_28 = true := by decide +kernel
theorem E58_56 : C58_56 = .region 28 R58_28 false := rfl
theorem R58_29_N : dstsOk 303 R58_29 = true := by decide +kernel
theorem E58_58 : C58_58 = .region 29 R58_29 false := rfl
theorem R58_30_N : dstsOk 303 R58_30 = true := by decide +kernel
theorem E58_60 : C58_60 = .region 30 R58_30 false := rfl
theorem R58_31_N : dstsOk 303 R58_31 = true := by decide +kernel
theorem E58_62 : C58_62 = .region 31 R58_31 false := rfl
theorem R58_32_N : dstsOk 303 R58_32 = true := by decide +kernel
theorem E58_65 : C58_65 = .region 32 R58_32 false := rfl
theorem R58_33_N : dstsOk 303 R58_33 = true := by decide +kernel
theorem E58_67 : C58_67 = .region 33 R58_33 false := rfl
theorem E58_68 : C58_68 = .skip := rfl
theorem E58_66 : C58_66 = .cond (.tmp 197) C58_67 C58_68 := rfl
theorem E58_64 : C58_64 = .seq C58_65 C58_66 := rfl
theorem R58_34_N : dstsOk 303 R58_34 = true := by decide +kernel
theorem E58_70 : C58_70 = .region 34 R58_34 false := rfl
theorem R58_35_N : dstsOk 303 R58_35 = true := by decide +kernel
theorem E58_73 : C58_73 = .region 35 R58_35 false := rfl
theorem R58_36_N : dstsOk 303 R58_36 = true := by decide +kernel
theorem R58_36_O : linOk R58_36 [0, 1, 2, 3, 4, 5, 6, 7, 8, 9, 10, 11, 12, 13, 14] [(15, [0, 1, 2, 3, 4, 5, 6, 7, 8, 9, 10, 11, 12, 13], []), (16, [0], [17, 18]), (19, [], [])] = true := by decide +kernel
theorem E58_74 : C58_74 = .region 36 R58_36 true := rfl
theorem E58_72 : C58_72 = .seq C58_73 C58_74 := rfl
theorem R58_37_N : dstsOk 303 R58_37 = true := by decide +kernel
theorem E58_76 : C58_76 = .region 37 R58_37 false := rfl
theorem R58_38_N : dstsOk 303 R58_38 = true := by decide +kernel
theorem E58_78 : C58_78 = .region 38 R58_38 false := rfl
theorem R58_39_N : dstsOk 303 R58_39 = true := by decide +kernel
theorem E58_80 : C58_80 = .region 39 R58_39 false := rfl
theorem R58_40_N : dstsOk 303 R58_40 = true := by decide +kernel
theorem E58_82 : C58_82 = .region 40 R58_40 false := rfl
theorem R58_41_N : dstsOk 303 R58_41 = true := by decide +kernel
theorem E58_84 : C58_84 = .region 41 R58_41 false := rfl
theorem R58_42_N : dstsOk 303 R58_42 = true := by decide +kernel
theorem E58_86 : C58_86 = .region 42 R58_42 false := rfl
theorem R58_43_N : dstsOk 303 R58_43 = true := by decide +kernel
theorem E58_88 : C58_88 = .region 43 R58_43 false := rfl
theorem R58_44_N : dstsOk 303 R58_44 = true := by decide +kernel
theorem E58_90 : C58_90 = .region 44 R58_44 false := rfl
theorem R58_45_N : dstsOk 303 R58_45 = true := by decide +kernel
theorem E58_92 : C58_92 = .region 45 R58_45 false := rfl
theorem R58_46_N : dstsOk 303 R58_46 = true := by decide +kernel
theorem E58_94 : C58_94 = .region 46 R58_46 false := rfl
theorem R58_47_N : dstsOk 303 R58_47 = true := by decide +kernel
theorem E58_96 : C58_96 = .region 47 R58_47 false := rfl
theorem R58_48_N : dstsOk 303 R58_48 = true := by decide +kernel
theorem R58_48_O : linOk R58_48 [0, 1, 2, 3, 4, 5, 6, 7, 8, 9, 10, 11, 12, 13, 14, 15, 16, 17] [(18, [0, 1, 2, 3, 4], []), (19, [0], [20, 21]), (22, [], [])] = true := by decide +kernel
theorem E58_98 : C58_98 = .region 48 R58_48 true := rfl
theorem R58_49_N : dstsOk 303 R58_49 = true := by decide +kernel
theorem E58_100 : C58_100 = .region 49 R58_49 false := rfl
theorem R58_50_N : dstsOk 303 R58_50 = true := by decide +kernel
theorem R58_50_O : linOk R58_50 [0, 1, 2, 3, 4, 5, 6, 7, 8, 9, 10, 11, 12, 13] [(14, [], [])] = true := by decide +kernel
theorem E58_102 : C58_102 = .region 50 R58_50 true := rfl
theorem R58_51_N : dstsOk 303 R58_51 = true := by decide +kernel
theorem E58_104 : C58_104 = .region 51 R58_51 false := rfl
theorem R58_52_N : dstsOk 303 R58_52 = true := by decide +kernel
theorem E58_106 : C58_106 = .region 52 R58_52 false := rfl
theorem R58_4_N : dstsOk 303 R58_4 = true := by decide +kernel
theorem E58_107 : C58_107 = .region 4 R58_4 false := rfl
theorem E58_105 : C58_105 = .cond (.tmp 297) C58_106 C58_107 := rfl
theorem E58_103 : C58_103 = .seq C58_104 C58_105 := rfl
theorem E58_101 : C58_101 = .cond (.tmp 281) C58_102 C58_103 := rfl
theorem E58_99 : C58_99 = .seq C58_100 C58_101 := rfl
theorem E58_97 : C58_97 = .cond (.tmp 257) C58_98 C58_99 := rfl
theorem E58_95 : C58_95 = .seq C58_96 C58_97 := rfl
theorem E58_93 : C58_93 = .cond (.tmp 249) C58_94 C58_95 := rfl
theorem E58_91 : C58_91 = .seq C58_92 C58_93 := rfl
theorem E58_89 : C58_89 = .cond (.tmp 245) C58_90 C58_91 := rfl
theorem E58_87 : C58_87 = .seq C58_88 C58_89 := rfl
theorem E58_85 : C58_85 = .cond (.tmp 236) C58_86 C58_87 := rfl
theorem E58_83 : C58_83 = .seq C58_84 C58_85 := rfl
theorem E58_81 : C58_81 = .cond (.tmp 230) C58_82 C58_83 := rfl
theorem E58_79 : C58_79 = .seq C58_80 C58_81 := rfl
theorem E58_77 : C58_77 = .cond (.tmp 226) C58_78 C58_79 := rfl
theorem E58_75 : C58_75 = .seq C58_76 C58_77 := rfl
theorem E58_71 : C58_71 = .cond (.tmp 203) C58_72 C58_75 := rfl
theorem E58_69 : C58_69 = .seq C58_70 C58_71 := rfl
theorem E58_63 : C58_63 = .cond (.tmp 192) C58_64 C58_69 := rfl
theorem E58_61 : C58_61 = .seq C58_62 C58_63 := rfl
theorem E58_59 : C58_59 = .cond (.tmp 185) C58_60 C58_61 := rfl
theorem E58_57 : C58_57 = .seq C58_58 C58_59 := rfl
theorem E58_55 : C58_55 = .cond (.tmp 177) C58_56 C58_57 := rfl
theorem E58_53 : C58_53 = .seq C58_54 C58_55 := rfl
theorem E58_51 : C58_51 = .cond (.tmp 171) C58_52 C58_53 := rfl
theorem E58_49 : C58_49 = .seq C58_50 C58_51 := rfl
theorem E58_43 : C58_43 = .cond (.tmp 137) C58_44 C58_49 := rfl
theorem E58_41 : C58_41 = .seq C58_42 C58_43 := rfl
theorem E58_39 : C58_39 = .cond (.tmp 133) C58_40 C58_41 := rfl
theorem E58_37 : C58_37 = .seq C58_38 C58_39 := rfl
theorem E58_35 : C58_35 = .cond (.tmp 123) C58_36 C58_37 := rfl
theorem E58_33 : C58_33 = .seq C58_34 C58_35 := rfl
theorem E58_31 : C58_31 = .cond (.tmp 111) C58_32 C58_33 := rfl
theorem E58_29 : C58_29 = .seq C58_30 C58_31 := rfl
theorem E58_27 : C58_27 = .cond (.tmp 96) C58_28 C58_29 := rfl
theorem E58_25 : C58_25 = .seq C58_26 C58_27 := rfl
theorem E58_23 : C58_23 = .cond (.tmp 76) C58_24 C58_25 := rfl
theorem E58_21 : C58_21 = .seq C58_22 C58_23 := rfl
theorem E58_19 : C58_19 = .cond (.tmp 59) C58_20 C58_21 := rfl
theorem E58_17 : C58_17 = .seq C58_18 C58_19 := rfl
theorem E58_15 : C58_15 = .cond (.tmp 53) C58_16 C58_17 := rfl
theorem E58_13 : C58_13 = .seq C58_14 C58_15 := rfl
theorem E58_11 : C58_11 = .cond (.tmp 46) C58_12 C58_13 := rfl
theorem E58_9 : C58_9 = .seq C58_10 C58_11 := rfl
theorem E58_8 : C58_8 = .block 0 C58_9 := rfl
theorem E58_6 : C58_6 = .seq C58_7 C58_8 := rfl
theorem E58_4 : C58_4 = .seq C58_5 C58_6 := rfl
theorem E58_2 : C58_2 = .seq C58_3 C58_4 := rfl
theorem E58_0 : C58_0 = .seq C58_1 C58_2 := rfl
def S58_1 (Q : Unit → AW → Prop) (E : List PanicEntry → AW → Prop)  (m_0 : Value) (f_2 : Value) (i_3 : Value) (t_42 : Int) (aw : AW) : Prop :=
  cnd (decide (t_42 = 0)) (fldA i_3 1 fun p2 =>
  ldI .i64 aw p2 fun x10 =>
  CallP prog 14 [.int .i64 x10] aw sh14 (fun r12 aw13 =>
  CallP prog 34 [m_0, .int .u64 r12] aw13 sh34 (fun r14 aw15 =>
  Q () aw15) E) E) (cnd (decide (t_42 = 1)) (fldA i_3 3 fun p17 =>
  ldS aw p17 fun x25 =>
  CallP prog 69 [m_0, .string x25] aw sh69 (fun r27 aw28 =>
  Q () aw28) E) (cnd (decide (t_42 = 2)) (nck m_0 (fldA m_0 3 fun p31 =>
  ldV aw p31 fun x39 =>
  nck f_2 (fldA f_2 2 fun p42 =>
  ldI .i64 aw p42 fun x50 =>
  fldA i_3 1 fun p52 =>
  ldI .i64 aw p52 fun x60 =>
  ixS x39 (IntKind.i64.wrap (x50 + x60)) 1 fun p62 =>
  ldI .u64 aw p62 fun x74 =>
  CallP prog 34 [m_0, .int .u64 x74] aw sh34 (fun r76 aw77 =>
  Q () aw77) E))) (cnd (decide (t_42 = 3)) (nck m_0 (fldA m_0 3 fun p80 =>
  ldV aw p80 fun x88 =>
  nck f_2 (fldA f_2 2 fun p91 =>
  ldI .i64 aw p91 fun x99 =>
  ixS x88 (IntKind.i64.wrap (x99 - 1)) 1 fun p101 =>
  ldI .u64 aw p101 fun x113 =>
  fldA i_3 1 fun p115 =>
  ldI .i64 aw p115 fun x123 =>
  CallP prog 70 [m_0, .int .u64 x113, .int .i64 (IntKind.i64.wrap (1 + x123))] aw sh70 (fun r125 aw126 =>
  CallP prog 34 [m_0, .int .u64 r125] aw126 sh34 (fun r127 aw128 =>
  Q () aw128) E) E))) (cnd (decide (t_42 = 4)) (nck m_0 (fldA m_0 3 fun p131 =>
  ldV aw p131 fun x139 =>
  nck f_2 (fldA f_2 2 fun p142 =>
  ldI .i64 aw p142 fun x150 =>
  ixS x139 (IntKind.i64.wrap (x150 - 1)) 1 fun p152 =>
  ldI .u64 aw p152 fun x164 =>
  CallP prog 34 [m_0, .int .u64 x164] aw sh34 (fun r166 aw167 =>
  Q () aw167) E))) (cnd (decide (t_42 = 5)) (nck m_0 (fldA m_0 2 fun p170 =>
  ldV aw p170 fun x178 =>
  fldA i_3 1 fun p180 =>
  ldI .i64 aw p180 fun x188 =>
  ixS x178 x188 1 fun p190 =>
  ldI .u64 aw p190 fun x202 =>
  CallP prog 34 [m_0, .int .u64 x202] aw sh34 (fun r204 aw205 =>
  Q () aw205) E)) (cnd (decide (t_42 = 6)) (fldA i_3 2 fun p207 =>
  ldI .i64 aw p207 fun x215 =>
  fldA i_3 1 fun p217 =>
  ldI .i64 aw p217 fun x225 =>
  CallP prog 14 [.int .i64 x225] aw sh14 (fun r227 aw228 =>
  again1 aw228 p207 (.int .i64 x215) ∧ alcS aw228 [.int .u64 r227] 26 1 1 fun p229 aw230 =>
  again1 aw230 p207 (.int .i64 x215) ∧ CallP prog 71 [m_0, .int .u8 5, .int .i64 x215, p229] aw230 sh71 (fun r233 aw234 =>
  Q () aw234) E) E) (cnd (decide (t_42 = 7)) (CallP prog 72 [m_0] aw sh72 (fun r236 aw237 =>
  Q () aw237) E) (cnd (decide (t_42 = 8)) (CallP prog 37 [m_0] aw sh37 (fun r239 aw240 =>
  nck m_0 (fldA m_0 3 fun p242 =>
  ldV aw240 p242 fun x250 =>
  nck f_2 (fldA f_2 2 fun p253 =>
  ldI .i64 aw240 p253 fun x261 =>
  cutV aw240 1 x250 0 (IntKind.i64.wrap (x261 - 1)) fun v263 =>
  alcS aw240 [.int .u64 r239] 26 1 1 fun p265 aw266 =>
  again1 aw266 p242 (x250) ∧ again1 aw266 p253 (.int .i64 x261) ∧ Cut aw266 1 x250 0 (IntKind.i64.wrap (x261 - 1)) v263 ∧ app aw266 26 1 8 v263 p265 fun v269 aw270 =>
  nck m_0 (fldA m_0 3 fun p273 =>
  st aw270 p273 [v269] fun aw278 =>
  nck m_0 (fldA m_0 4 fun p286 =>
  ldV aw278 p286 fun x294 =>
  nck m_0 (fldA m_0 4 fun p297 =>
  ldV aw278 p297 fun x305 =>
  slen x305 fun n307 =>
  cutV aw278 3 x294 0 (IntKind.i64.wrap (n307 - 1)) fun v313 =>
  nck m_0 (fldA m_0 4 fun p316 =>
  st aw278 p316 [v313] fun aw321 =>
  Q () aw321))))))) E) (cnd (decide (t_42 = 9)) (fldA i_3 1 fun p329 =>
  ldI .i64 aw p329 fun x337 =>
  CallP prog 71 [m_0, .int .u8 1, .int .i64 x337, (.slice none 0 0)] aw sh71 (fun r339 aw340 =>
  Q () aw340) E) (cnd (decide (t_42 = 10)) (fldA i_3 1 fun p342 =>
  ldI .i64 aw p342 fun x350 =>
  CallP prog 14 [.int .i64 x350] aw sh14 (fun r352 aw353 =>
  alcS aw353 [.int .u64 r352] 26 1 1 fun p354 aw355 =>
  CallP prog 71 [m_0, .int .u8 2, .int .i64 1, p354] aw355 sh71 (fun r358 aw359 =>
  Q () aw359) E) E) (cnd (decide (t_42 = 12)) (fldA i_3 1 fun p361 =>
  ldI .i64 aw p361 fun x369 =>
  nck f_2 (fldA f_2 1 fun p372 =>
  st aw p372 [.int .i64 x369] fun aw377 =>
  Q () aw377)) (cnd (decide (t_42 = 13)) (CallP prog 37 [m_0] aw sh37 (fun r385 aw386 =>
  CallP prog 73 [.int .u64 r385] aw386 sh73 (fun r387 aw388 =>
  cnd (decide (r387 = 0)) (fldA i_3 1 fun p390 =>
  ldI .i64 aw388 p390 fun x398 =>
  nck f_2 (fldA f_2 1 fun p401 =>
  st aw388 p401 [.int .i64 x398] fun aw406 =>
  Q () aw406)) (Q () aw388)) E) E) (cnd (decide (t_42 = 18)) (CallP prog 37 [m_0] aw sh37 (fun r414 aw415 =>
  nck m_0 (fldA m_0 3 fun p417 =>
  ldV aw415 p417 fun x425 =>
  nck m_0 (fldA m_0 3 fun p428 =>
  ldV aw415 p428 fun x436 =>
  slen x436 fun n438 =>
  fldA i_3 1 fun p444 =>
  ldI .i64 aw415 p444 fun x452 =>
  cutV aw415 1 x425 0 (IntKind.i64.wrap (n438 - x452)) fun v454 =>
  alcS aw415 [.int .u64 r414] 26 1 1 fun p456 aw457 =>
  again1 aw457 p417 (x425) ∧ again1 aw457 p428 (x436) ∧ again1 aw457 p444 (.int .i64 x452) ∧ Cut aw457 1 x425 0 (IntKind.i64.wrap (n438 - x452)) v454 ∧ app aw457 26 1 8 v454 p456 fun v460 aw461 =>
  nck m_0 (fldA m_0 3 fun p464 =>
  st aw461 p464 [v460] fun aw469 =>
  Q () aw469)))) E) (cnd (decide (t_42 = 19)) (CallP prog 37 [m_0] aw sh37 (fun r477 aw478 =>
  Q () aw478) E) (cnd (decide (t_42 = 20)) (fldA i_3 1 fun p480 =>
  ldI .i64 aw p480 fun x488 =>
  CallP prog 74 [m_0, .int .i64 x488] aw sh74 (fun r490 aw491 =>
  Q () aw491) E) (cnd (decide (t_42 = 21)) (CallP prog 37 [m_0] aw sh37 (fun r493 aw494 =>
  CallP prog 73 [.int .u64 r493] aw494 sh73 (fun r495 aw496 =>
  CallP prog 14 [.int .i64 (IntKind.i64.wrap (-r495))] aw496 sh14 (fun r497 aw498 =>
  CallP prog 34 [m_0, .int .u64 r497] aw498 sh34 (fun r499 aw500 =>
  Q () aw500) E) E) E) E) (cnd (decide (t_42 = 22)) (CallP prog 71 [m_0, .int .u8 4, .int .i64 1, (.slice none 0 0)] aw sh71 (fun r502 aw503 =>
  Q () aw503) E) (cnd (decide (t_42 = 23)) (CallP prog 37 [m_0] aw sh37 (fun r505 aw506 =>
  CallP prog 70 [m_0, .int .u64 r505, .int .i64 0] aw506 sh70 (fun r507 aw508 =>
  CallP prog 34 [m_0, .int .u64 r507] aw508 sh34 (fun r509 aw510 =>
  Q () aw510) E) E) E) (cnd (decide (t_42 = 24)) (nck m_0 (fldA m_0 5 fun p513 =>
  ldV aw p513 fun x521 =>
  nck m_0 (fldA m_0 4 fun p524 =>
  ldV aw p524 fun x532 =>
  slen x532 fun n534 =>
  nck m_0 (fldA m_0 3 fun p541 =>
  ldV aw p541 fun x549 =>
  slen x549 fun n551 =>
  fldA i_3 1 fun p557 =>
  ldI .i64 aw p557 fun x565 =>
  alcS aw [.int .i64 n534, .int .i64 n551, .int .i64 x565] 132 3 1 fun p567 aw568 =>
  again1 aw568 p513 (x521) ∧ app aw568 132 3 24 x521 p567 fun v571 aw572 =>
  nck m_0 (fldA m_0 5 fun p575 =>
  st aw572 p575 [v571] fun aw580 =>
  Q () aw580))))) (cnd (decide (t_42 = 25)) (nck m_0 (fldA m_0 5 fun p589 =>
  ldV aw p589 fun x597 =>
  nck m_0 (fldA m_0 5 fun p600 =>
  ldV aw p600 fun x608 =>
  slen x608 fun n610 =>
  cutV aw 3 x597 0 (IntKind.i64.wrap (n610 - 1)) fun v616 =>
  nck m_0 (fldA m_0 5 fun p619 =>
  st aw p619 [v616] fun aw624 =>
  Q () aw624)))) (cnd (decide (t_42 = 26)) (fldA i_3 3 fun p632 =>
  ldS aw p632 fun x640 =>
  E [⟨(.iface 116 (.agg #[.string x640])), false, false⟩] aw) (ptr i_3 fun b642 i643 =>
  gI .u8 aw b642 i643 fun c645 =>
  gI .i64 aw b642 (i643 + 1) fun c646 =>
  gI .i64 aw b642 (i643 + 2) fun c647 =>
  gS aw b642 (i643 + 3) fun c648 =>
  CallP prog 75 [m_0, .agg #[.int .u8 c645, .int .i64 c646, .int .i64 c647, .string c648]] aw sh75 (fun r653 aw654 =>
  Q () aw654) E))))))))))))))))))))))
def S58_0 (Q : Unit → AW → Prop) (E : List PanicEntry → AW → Prop)  (m_0 : Value) (aw : AW) : Prop :=
  nck m_0 (fldA m_0 4 fun p656 =>
  ldV aw p656 fun x664 =>
  nck m_0 (fldA m_0 4 fun p667 =>
  ldV aw p667 fun x675 =>
  slen x675 fun n677 =>
  ixS x664 (IntKind.i64.wrap (n677 - 1)) 3 fun p683 =>
  nck m_0 (fldA m_0 1 fun p693 =>
  ldV aw p693 fun x701 =>
  nck p683 (fldA p683 0 fun p704 =>
  ldI .i64 aw p704 fun x712 =>
  ixS x701 x712 2 fun p714 =>
  fldA p714 1 fun p723 =>
  ldV aw p723 fun x731 =>
  nck p683 (fldA p683 1 fun p734 =>
  ldI .i64 aw p734 fun x742 =>
  ixS x731 x742 4 fun p744 =>
  ptr p744 fun b753 i754 =>
  gI .u8 aw b753 i754 fun c756 =>
  gI .i64 aw b753 (i754 + 1) fun c757 =>
  gI .i64 aw b753 (i754 + 2) fun c758 =>
  gS aw b753 (i754 + 3) fun c759 =>
  alc aw [.int .u8 0, .int .i64 0, .int .i64 0, .string (⟨#[]⟩ : ByteArray)] 34 0 fun p764 aw765 =>
  again1 aw765 p693 (x701) ∧ again1 aw765 p704 (.int .i64 x712) ∧ again1 aw765 p723 (x731) ∧ again1 aw765 p734 (.int .i64 x742) ∧ aw765.get b753 i754 = some (.int .u8 c756) ∧ aw765.get b753 (i754 + 1) = some (.int .i64 c757) ∧ aw765.get b753 (i754 + 2) = some (.int .i64 c758) ∧ aw765.get b753 (i754 + 3) = some (.string c759) ∧ st aw765 p764 [.int .u8 c756, .int .i64 c757, .int .i64 c758, .string c759] fun aw768 =>
  nck p683 (fldA p683 1 fun p776 =>
  ldI .i64 aw768 p776 fun x784 =>
  nck p683 (fldA p683 1 fun p787 =>
  st aw768 p787 [.int .i64 (IntKind.i64.wrap (x784 + 1))] fun aw792 =>
  fldA p764 0 fun p799 =>
  ldI .u8 aw792 p799 fun x807 =>
  S58_1 Q E  m_0 p683 p764 x807 aw792)))))))
theorem S58_1_ok (Q : Unit → AW → Prop) (E : List PanicEntry → AW → Prop)  (ρ : Env) (m_0 : Value) (f_2 : Value) (i_3 : Value) (t_42 : Int) (aw : AW) (h0 : ρ 0 = m_0) (h2 : ρ 2 = f_2) (h3 : ρ 3 = i_3) (h42 : ρ 42 = .int .u8 t_42) (H : S58_1 Q E  m_0 f_2 i_3 t_42 aw) :
    AGo prog 303 [.code C58_8] ρ [] aw (RR prog f58 303 sh58 Q E) := by
  unfold S58_1 at H
  refine ago_blockE E58_8 ?_
  refine ago_seqE E58_9 ?_
  refine ago_regE E58_10 (l := [0, 1]) rfl ?_
  refine lk (dt := some 47) R58_5_N rfl rfl rfl (opv_eqI rfl rfl rfl h42 rfl) ?_
  refine lk (dt := some 46) R58_5_N rfl rfl rfl (opv_assign rfl rfl rfl) ?_
  refine aops_nil ?_
  refine ago_condE  E58_11 rfl rfl (fun hb1 => ?_) (fun hb1 => ?_)
  · replace H := cnd_t H hb1
    refine ago_regE E58_12 (l := [0, 1, 2, 3, 4]) rfl ?_
    refine lk (dt := some 48) R58_6_N rfl rfl rfl (opv_move rfl rfl h0) ?_
    obtain ⟨b3, i4, p2, hp5, hv6, H⟩ := H
    refine lk (dt := some 49) R58_6_N rfl rfl rfl (ov_fldA rfl rfl underlying34 rfl sz2 (by decide) h3 hp5 rfl hv6) ?_
    obtain ⟨b7, i8, x10, hp9, hg11, H⟩ := H
    refine lk (dt := some 50) R58_6_N rfl rfl rfl (ov_ldI rfl underlying2 rfl rfl hp9 hg11) ?_
    refine lk_call (dt := some 51) R58_6_N rfl rfl rfl (opc_of rfl rfl is14 (ma_cons rfl rfl)) H (fun _ _ h => ⟨rfl, h⟩) fun r12 aw13 H => ?_
    refine lk_call (dt := some 52) R58_6_N rfl rfl rfl (opc_of rfl rfl is34 (ma_cons rfl (ma_cons rfl rfl))) H (fun _ _ h => ⟨rfl, h⟩) fun r14 aw15 H => ?_
    refine aops_nil ?_
    refine ago_inBlock ?_
    exact ago_nilR (r := ()) (ares_0 rfl ) rfl H
  · replace H := cnd_f H hb1
    refine ago_seqE E58_13 ?_
    refine ago_regE E58_14 (l := [0, 1]) rfl ?_
    refine lk (dt := some 54) R58_7_N rfl rfl rfl (opv_eqI rfl rfl rfl h42 rfl) ?_
    refine lk (dt := some 53) R58_7_N rfl rfl rfl (opv_assign rfl rfl rfl) ?_
    refine aops_nil ?_
    refine ago_condE  E58_15 rfl rfl (fun hb16 => ?_) (fun hb16 => ?_)
    · replace H := cnd_t H hb16
      refine ago_regE E58_16 (l := [0, 1, 2, 3]) rfl ?_
      refine lk (dt := some 55) R58_8_N rfl rfl rfl (opv_move rfl rfl h0) ?_
      obtain ⟨b18, i19, p17, hp20, hv21, H⟩ := H
      refine lk (dt := some 56) R58_8_N rfl rfl rfl (ov_fldA rfl rfl underlying34 rfl sz9 (by decide) h3 hp20 rfl hv21) ?_
      obtain ⟨b22, i23, x25, hp24, hg26, H⟩ := H
      refine lk (dt := some 57) R58_8_N rfl rfl rfl (ov_ldS rfl underlying9 rfl rfl hp24 hg26) ?_
      refine lk_call (dt := some 58) R58_8_N rfl rfl rfl (opc_of rfl rfl is69 (ma_cons rfl (ma_cons rfl rfl))) H (fun _ _ h => ⟨rfl, h⟩) fun r27 aw28 H => ?_
      refine aops_nil ?_
      refine ago_inBlock ?_
      exact ago_nilR (r := ()) (ares_0 rfl ) rfl H
    · replace H := cnd_f H hb16
      refine ago_seqE E58_17 ?_
      refine ago_regE E58_18 (l := [0, 1]) rfl ?_
      refine lk (dt := some 60) R58_9_N rfl rfl rfl (opv_eqI rfl rfl rfl h42 rfl) ?_
      refine lk (dt := some 59) R58_9_N rfl rfl rfl (opv_assign rfl rfl rfl) ?_
      refine aops_nil ?_
      refine ago_condE  E58_19 rfl rfl (fun hb29 => ?_) (fun hb29 => ?_)
      · replace H := cnd_t H hb29
        obtain ⟨hp30, H⟩ := H
        obtain ⟨b32, i33, p31, hp34, hv35, H⟩ := H
        obtain ⟨b36, i37, x39, hp38, hg40, H⟩ := H
        obtain ⟨hp41, H⟩ := H
        obtain ⟨b43, i44, p42, hp45, hv46, H⟩ := H
        obtain ⟨b47, i48, x50, hp49, hg51, H⟩ := H
        obtain ⟨b53, i54, p52, hp55, hv56, H⟩ := H
        obtain ⟨b57, i58, x60, hp59, hg61, H⟩ := H
        obtain ⟨b63, i64, l65, c66, p62, hp67, h068, hj69, hv70, H⟩ := H
        obtain ⟨b71, i72, x74, hp73, hg75, H⟩ := H
        refine ago_drawH (p := [0, 1, 2, 3, 4, 5, 6, 7, 8, 9, 10, 11, 12, 13]) (tl := [(14, [], [])]) (hv := [(0, m_0), (1, m_0), (2, m_0), (3, p31), (4, x39), (5, f_2), (6, f_2), (7, p42), (8, Value.int .i64 x50), (9, p52), (10, Value.int .i64 x60), (11, Value.int .i64 (IntKind.i64.wrap (x50 + x60))), (12, p62), (13, Value.int .u64 x74)]) E58_20 mixed R58_10_N R58_10_O rfl (pv_cons rfl (pv_cons rfl (pv_cons rfl (pv_cons rfl (pv_cons rfl (pv_cons rfl (pv_cons rfl (pv_cons rfl (pv_cons rfl (pv_cons rfl (pv_cons rfl (pv_cons rfl (pv_cons rfl (pv_cons rfl (pv_nil _)))))))))))))))
          (ffc (d := 61) (v := m_0) (hd_v rfl fun ρ hρ => ⟨rfl, opv_move rfl rfl ((hρ 0 (lmem rfl)).trans h0)⟩) rfl rfl
          (ffc (d := 62) (v := m_0) (hd_v rfl fun ρ hρ => ⟨rfl, opv_move rfl rfl ((hρ 0 (lmem rfl)).trans h0)⟩) rfl rfl
          (ffc (d := 63) (v := m_0) (hd_v rfl fun ρ hρ => ⟨rfl, ov_nck rfl rfl ((hρ 62 (lmem rfl)).trans rfl) hp30⟩) rfl rfl
          (ffc (d := 64) (v := p31) (hd_v rfl fun ρ hρ => ⟨rfl, ov_fldA rfl rfl underlying77 rfl sz62 (by decide) ((hρ 63 (lmem rfl)).trans rfl) hp34 rfl hv35⟩) rfl rfl
          (ffc (d := 65) (v := x39) (hd_v rfl fun ρ hρ => ⟨rfl, ov_ldV rfl underlying62 rfl rfl ((hρ 64 (lmem rfl)).trans rfl) hp38 hg40⟩) rfl rfl
          (ffc (d := 66) (v := f_2) (hd_v rfl fun ρ hρ => ⟨rfl, opv_move rfl rfl ((hρ 2 (lmem rfl)).trans h2)⟩) rfl rfl
          (ffc (d := 67) (v := f_2) (hd_v rfl fun ρ hρ => ⟨rfl, ov_nck rfl rfl ((hρ 66 (lmem rfl)).trans rfl) hp41⟩) rfl rfl
          (ffc (d := 68) (v := p42) (hd_v rfl fun ρ hρ => ⟨rfl, ov_fldA rfl rfl underlying85 rfl sz3 (by decide) ((hρ 67 (lmem rfl)).trans rfl) hp45 rfl hv46⟩) rfl rfl
          (ffc (d := 69) (v := .int .i64 x50) (hd_v rfl fun ρ hρ => ⟨rfl, ov_ldI rfl underlying3 rfl ((hρ 68 (lmem rfl)).trans rfl) hp49 hg51⟩) rfl rfl
          (ffc (d := 70) (v := p52) (hd_v rfl fun ρ hρ => ⟨rfl, ov_fldA rfl rfl underlying34 rfl sz2 (by decide) ((hρ 3 (lmem rfl)).trans h3) hp55 rfl hv56⟩) rfl rfl
          (ffc (d := 71) (v := .int .i64 x60) (hd_v rfl fun ρ hρ => ⟨rfl, ov_ldI rfl underlying2 rfl ((hρ 70 (lmem rfl)).trans rfl) hp59 hg61⟩) rfl rfl
          (ffc (d := 72) (v := .int .i64 (IntKind.i64.wrap (x50 + x60))) (hd_v rfl fun ρ hρ => ⟨rfl, opv_add rfl rfl rfl ((hρ 69 (lmem rfl)).trans rfl) ((hρ 71 (lmem rfl)).trans rfl)⟩) rfl rfl
          (ffc (d := 73) (v := p62) (hd_v rfl fun ρ hρ => ⟨rfl, ov_ixS rfl rfl rfl underlying62 sz26 ((hρ 65 (lmem rfl)).trans rfl) ((hρ 72 (lmem rfl)).trans rfl) hp67 h068 hj69 hv70⟩) rfl rfl
          (ffc (d := 74) (v := .int .u64 x74) (hd_v rfl fun ρ hρ => ⟨rfl, ov_ldI rfl underlying26 rfl ((hρ 73 (lmem rfl)).trans rfl) hp73 hg75⟩) rfl rfl
          ffn)))))))))))))) ?_
        refine lt_call (dt := some 75) rfl rfl (fun ρ hρ => ⟨rfl, opc_of rfl rfl is34 (ma_cons ((hρ 61 (lmem rfl)).trans rfl) (ma_cons ((hρ 74 (lmem rfl)).trans rfl) rfl))⟩) H (fun _ _ h _ => ⟨rfl, h⟩) fun r76 aw77 H => ?_
        refine lt_next (l := []) (hv := []) rfl rfl (pv_nil _)
          ffn ?_
        refine lt_end ?_
        refine ago_inBlock ?_
        exact ago_nilR (r := ()) (ares_0 rfl ) rfl H
      · replace H := cnd_f H hb29
        refine ago_seqE E58_21 ?_
        refine ago_regE E58_22 (l := [0, 1]) rfl ?_
        refine lk (dt := some 77) R58_11_N rfl rfl rfl (opv_eqI rfl rfl rfl h42 rfl) ?_
        refine lk (dt := some 76) R58_11_N rfl rfl rfl (opv_assign rfl rfl rfl) ?_
        refine aops_nil ?_
        refine ago_condE  E58_23 rfl rfl (fun hb78 => ?_) (fun hb78 => ?_)
        · replace H := cnd_t H hb78
          obtain ⟨hp79, H⟩ := H
          obtain ⟨b81, i82, p80, hp83, hv84, H⟩ := H
          obtain ⟨b85, i86, x88, hp87, hg89, H⟩ := H
          obtain ⟨hp90, H⟩ := H
          obtain ⟨b92, i93, p91, hp94, hv95, H⟩ := H
          obtain ⟨b96, i97, x99, hp98, hg100, H⟩ := H
          obtain ⟨b102, i103, l104, c105, p101, hp106, h0107, hj108, hv109, H⟩ := H
          obtain ⟨b110, i111, x113, hp112, hg114, H⟩ := H
          obtain ⟨b116, i117, p115, hp118, hv119, H⟩ := H
          obtain ⟨b120, i121, x123, hp122, hg124, H⟩ := H
          refine ago_drawH (p := [0, 1, 2, 3, 4, 5, 6, 7, 8, 9, 10, 11, 12, 13, 14, 15]) (tl := [(16, [0], []), (17, [], [])]) (hv := [(0, m_0), (1, m_0), (2, m_0), (3, m_0), (4, p80), (5, x88), (6, f_2), (7, f_2), (8, p91), (9, Value.int .i64 x99), (10, Value.int .i64 (IntKind.i64.wrap (x99 - 1))), (11, p101), (12, Value.int .u64 x113), (13, p115), (14, Value.int .i64 x123), (15, Value.int .i64 (IntKind.i64.wrap (1 + x123)))]) E58_24 mixed R58_12_N R58_12_O rfl (pv_cons rfl (pv_cons rfl (pv_cons rfl (pv_cons rfl (pv_cons rfl (pv_cons rfl (pv_cons rfl (pv_cons rfl (pv_cons rfl (pv_cons rfl (pv_cons rfl (pv_cons rfl (pv_cons rfl (pv_cons rfl (pv_cons rfl (pv_cons rfl (pv_nil _)))))))))))))))))
            (ffc (d := 78) (v := m_0) (hd_v rfl fun ρ hρ => ⟨rfl, opv_move rfl rfl ((hρ 0 (lmem rfl)).trans h0)⟩) rfl rfl
            (ffc (d := 79) (v := m_0) (hd_v rfl fun ρ hρ => ⟨rfl, opv_move rfl rfl ((hρ 0 (lmem rfl)).trans h0)⟩) rfl rfl
            (ffc (d := 80) (v := m_0) (hd_v rfl fun ρ hρ => ⟨rfl, opv_move rfl rfl ((hρ 0 (lmem rfl)).trans h0)⟩) rfl rfl
            (ffc (d := 81) (v := m_0) (hd_v rfl fun ρ hρ => ⟨rfl, ov_nck rfl rfl ((hρ 80 (lmem rfl)).trans rfl) hp79⟩) rfl rfl
            (ffc (d := 82) (v := p80) (hd_v rfl fun ρ hρ => ⟨rfl, ov_fldA rfl rfl underlying77 rfl sz62 (by decide) ((hρ 81 (lmem rfl)).trans rfl) hp83 rfl hv84⟩) rfl rfl
            (ffc (d := 83) (v := x88) (hd_v rfl fun ρ hρ => ⟨rfl, ov_ldV rfl underlying62 rfl rfl ((hρ 82 (lmem rfl)).trans rfl) hp87 hg89⟩) rfl rfl
            (ffc (d := 84) (v := f_2) (hd_v rfl fun ρ hρ => ⟨rfl, opv_move rfl rfl ((hρ 2 (lmem rfl)).trans h2)⟩) rfl rfl
            (ffc (d := 85) (v := f_2) (hd_v rfl fun ρ hρ => ⟨rfl, ov_nck rfl rfl ((hρ 84 (lmem rfl)).trans rfl) hp90⟩) rfl rfl
            (ffc (d := 86) (v := p91) (hd_v rfl fun ρ hρ => ⟨rfl, ov_fldA rfl rfl underlying85 rfl sz3 (by decide) ((hρ 85 (lmem rfl)).trans rfl) hp94 rfl hv95⟩) rfl rfl
            (ffc (d := 87) (v := .int .i64 x99) (hd_v rfl fun ρ hρ => ⟨rfl, ov_ldI rfl underlying3 rfl ((hρ 86 (lmem rfl)).trans rfl) hp98 hg100⟩) rfl rfl
            (ffc (d := 88) (v := .int .i64 (IntKind.i64.wrap (x99 - 1))) (hd_v rfl fun ρ hρ => ⟨rfl, opv_sub rfl rfl rfl ((hρ 87 (lmem rfl)).trans rfl) rfl⟩) rfl rfl
            (ffc (d := 89) (v := p101) (hd_v rfl fun ρ hρ => ⟨rfl, ov_ixS rfl rfl rfl underlying62 sz26 ((hρ 83 (lmem rfl)).trans rfl) ((hρ 88 (lmem rfl)).trans rfl) hp106 h0107 hj108 hv109⟩) rfl rfl
            (ffc (d := 90) (v := .int .u64 x113) (hd_v rfl fun ρ hρ => ⟨rfl, ov_ldI rfl underlying26 rfl ((hρ 89 (lmem rfl)).trans rfl) hp112 hg114⟩) rfl rfl
            (ffc (d := 91) (v := p115) (hd_v rfl fun ρ hρ => ⟨rfl, ov_fldA rfl rfl underlying34 rfl sz2 (by decide) ((hρ 3 (lmem rfl)).trans h3) hp118 rfl hv119⟩) rfl rfl
            (ffc (d := 92) (v := .int .i64 x123) (hd_v rfl fun ρ hρ => ⟨rfl, ov_ldI rfl underlying2 rfl ((hρ 91 (lmem rfl)).trans rfl) hp122 hg124⟩) rfl rfl
            (ffc (d := 93) (v := .int .i64 (IntKind.i64.wrap (1 + x123))) (hd_v rfl fun ρ hρ => ⟨rfl, opv_add rfl rfl rfl rfl ((hρ 92 (lmem rfl)).trans rfl)⟩) rfl rfl
            ffn)))))))))))))))) ?_
          refine lt_call (dt := some 94) rfl rfl (fun ρ hρ => ⟨rfl, opc_of rfl rfl is70 (ma_cons ((hρ 79 (lmem rfl)).trans rfl) (ma_cons ((hρ 90 (lmem rfl)).trans rfl) (ma_cons ((hρ 93 (lmem rfl)).trans rfl) rfl)))⟩) H (fun _ _ h _ => ⟨rfl, h⟩) fun r125 aw126 H => ?_
          refine lt_next (l := [0]) (hv := []) rfl rfl (pv_nil _)
            (ffc (d := 78) (v := m_0) (hd_v rfl fun ρ hρ => ⟨rfl, opv_move rfl rfl ((hρ 0 (lmem rfl)).trans h0)⟩) rfl rfl
            ffn) ?_
          refine lt_call (dt := some 95) rfl rfl (fun ρ hρ => ⟨rfl, opc_of rfl rfl is34 (ma_cons ((hρ 78 (lmem rfl)).trans rfl) (ma_cons ((hρ 94 (lmem rfl)).trans rfl) rfl))⟩) H (fun _ _ h _ => ⟨rfl, h⟩) fun r127 aw128 H => ?_
          refine lt_next (l := []) (hv := []) rfl rfl (pv_nil _)
            ffn ?_
          refine lt_end ?_
          refine ago_inBlock ?_
          exact ago_nilR (r := ()) (ares_0 rfl ) rfl H
        · replace H := cnd_f H hb78
          refine ago_seqE E58_25 ?_
          refine ago_regE E58_26 (l := [0, 1]) rfl ?_
          refine lk (dt := some 97) R58_13_N rfl rfl rfl (opv_eqI rfl rfl rfl h42 rfl) ?_
          refine lk (dt := some 96) R58_13_N rfl rfl rfl (opv_assign rfl rfl rfl) ?_
          refine aops_nil ?_
          refine ago_condE  E58_27 rfl rfl (fun hb129 => ?_) (fun hb129 => ?_)
          · replace H := cnd_t H hb129
            obtain ⟨hp130, H⟩ := H
            obtain ⟨b132, i133, p131, hp134, hv135, H⟩ := H
            obtain ⟨b136, i137, x139, hp138, hg140, H⟩ := H
            obtain ⟨hp141, H⟩ := H
            obtain ⟨b143, i144, p142, hp145, hv146, H⟩ := H
            obtain ⟨b147, i148, x150, hp149, hg151, H⟩ := H
            obtain ⟨b153, i154, l155, c156, p152, hp157, h0158, hj159, hv160, H⟩ := H
            obtain ⟨b161, i162, x164, hp163, hg165, H⟩ := H
            refine ago_drawH (p := [0, 1, 2, 3, 4, 5, 6, 7, 8, 9, 10, 11]) (tl := [(12, [], [])]) (hv := [(0, m_0), (1, m_0), (2, m_0), (3, p131), (4, x139), (5, f_2), (6, f_2), (7, p142), (8, Value.int .i64 x150), (9, Value.int .i64 (IntKind.i64.wrap (x150 - 1))), (10, p152), (11, Value.int .u64 x164)]) E58_28 mixed R58_14_N R58_14_O rfl (pv_cons rfl (pv_cons rfl (pv_cons rfl (pv_cons rfl (pv_cons rfl (pv_cons rfl (pv_cons rfl (pv_cons rfl (pv_cons rfl (pv_cons rfl (pv_cons rfl (pv_cons rfl (pv_nil _)))))))))))))
              (ffc (d := 98) (v := m_0) (hd_v rfl fun ρ hρ => ⟨rfl, opv_move rfl rfl ((hρ 0 (lmem rfl)).trans h0)⟩) rfl rfl
              (ffc (d := 99) (v := m_0) (hd_v rfl fun ρ hρ => ⟨rfl, opv_move rfl rfl ((hρ 0 (lmem rfl)).trans h0)⟩) rfl rfl
              (ffc (d := 100) (v := m_0) (hd_v rfl fun ρ hρ => ⟨rfl, ov_nck rfl rfl ((hρ 99 (lmem rfl)).trans rfl) hp130⟩) rfl rfl
              (ffc (d := 101) (v := p131) (hd_v rfl fun ρ hρ => ⟨rfl, ov_fldA rfl rfl underlying77 rfl sz62 (by decide) ((hρ 100 (lmem rfl)).trans rfl) hp134 rfl hv135⟩) rfl rfl
              (ffc (d := 102) (v := x139) (hd_v rfl fun ρ hρ => ⟨rfl, ov_ldV rfl underlying62 rfl rfl ((hρ 101 (lmem rfl)).trans rfl) hp138 hg140⟩) rfl rfl
              (ffc (d := 103) (v := f_2) (hd_v rfl fun ρ hρ => ⟨rfl, opv_move rfl rfl ((hρ 2 (lmem rfl)).trans h2)⟩) rfl rfl
              (ffc (d := 104) (v := f_2) (hd_v rfl fun ρ hρ => ⟨rfl, ov_nck rfl rfl ((hρ 103 (lmem rfl)).trans rfl) hp141⟩) rfl rfl
              (ffc (d := 105) (v := p142) (hd_v rfl fun ρ hρ => ⟨rfl, ov_fldA rfl rfl underlying85 rfl sz3 (by decide) ((hρ 104 (lmem rfl)).trans rfl) hp145 rfl hv146⟩) rfl rfl
              (ffc (d := 106) (v := .int .i64 x150) (hd_v rfl fun ρ hρ => ⟨rfl, ov_ldI rfl underlying3 rfl ((hρ 105 (lmem rfl)).trans rfl) hp149 hg151⟩) rfl rfl
              (ffc (d := 107) (v := .int .i64 (IntKind.i64.wrap (x150 - 1))) (hd_v rfl fun ρ hρ => ⟨rfl, opv_sub rfl rfl rfl ((hρ 106 (lmem rfl)).trans rfl) rfl⟩) rfl rfl
              (ffc (d := 108) (v := p152) (hd_v rfl fun ρ hρ => ⟨rfl, ov_ixS rfl rfl rfl underlying62 sz26 ((hρ 102 (lmem rfl)).trans rfl) ((hρ 107 (lmem rfl)).trans rfl) hp157 h0158 hj159 hv160⟩) rfl rfl
              (ffc (d := 109) (v := .int .u64 x164) (hd_v rfl fun ρ hρ => ⟨rfl, ov_ldI rfl underlying26 rfl ((hρ 108 (lmem rfl)).trans rfl) hp163 hg165⟩) rfl rfl
              ffn)))))))))))) ?_
            refine lt_call (dt := some 110) rfl rfl (fun ρ hρ => ⟨rfl, opc_of rfl rfl is34 (ma_cons ((hρ 98 (lmem rfl)).trans rfl) (ma_cons ((hρ 109 (lmem rfl)).trans rfl) rfl))⟩) H (fun _ _ h _ => ⟨rfl, h⟩) fun r166 aw167 H => ?_
            refine lt_next (l := []) (hv := []) rfl rfl (pv_nil _)
              ffn ?_
            refine lt_end ?_
            refine ago_inBlock ?_
            exact ago_nilR (r := ()) (ares_0 rfl ) rfl H
          · replace H := cnd_f H hb129
            refine ago_seqE E58_29 ?_
            refine ago_regE E58_30 (l := [0, 1]) rfl ?_
            refine lk (dt := some 112) R58_15_N rfl rfl rfl (opv_eqI rfl rfl rfl h42 rfl) ?_
            refine lk (dt := some 111) R58_15_N rfl rfl rfl (opv_assign rfl rfl rfl) ?_
            refine aops_nil ?_
            refine ago_condE  E58_31 rfl rfl (fun hb168 => ?_) (fun hb168 => ?_)
            · replace H := cnd_t H hb168
              refine ago_cut (fun ρ => ρ 0 = m_0 ∧ ρ 3 = i_3 ∧ True) ⟨h0, h3, trivial⟩ (fun ρ ⟨h0, h3, _⟩ => ?_)
              obtain ⟨hp169, H⟩ := H
              obtain ⟨b171, i172, p170, hp173, hv174, H⟩ := H
              obtain ⟨b175, i176, x178, hp177, hg179, H⟩ := H
              obtain ⟨b181, i182, p180, hp183, hv184, H⟩ := H
              obtain ⟨b185, i186, x188, hp187, hg189, H⟩ := H
              obtain ⟨b191, i192, l193, c194, p190, hp195, h0196, hj197, hv198, H⟩ := H
              obtain ⟨b199, i200, x202, hp201, hg203, H⟩ := H
              refine ago_drawH (p := [0, 1, 2, 3, 4, 5, 6, 7, 8]) (tl := [(9, [], [])]) (hv := [(0, m_0), (1, m_0), (2, m_0), (3, p170), (4, x178), (5, p180), (6, Value.int .i64 x188), (7, p190), (8, Value.int .u64 x202)]) E58_32 mixed R58_16_N R58_16_O rfl (pv_cons rfl (pv_cons rfl (pv_cons rfl (pv_cons rfl (pv_cons rfl (pv_cons rfl (pv_cons rfl (pv_cons rfl (pv_cons rfl (pv_nil _))))))))))
                (ffc (d := 113) (v := m_0) (hd_v rfl fun ρ hρ => ⟨rfl, opv_move rfl rfl ((hρ 0 (lmem rfl)).trans h0)⟩) rfl rfl
                (ffc (d := 114) (v := m_0) (hd_v rfl fun ρ hρ => ⟨rfl, opv_move rfl rfl ((hρ 0 (lmem rfl)).trans h0)⟩) rfl rfl
                (ffc (d := 115) (v := m_0) (hd_v rfl fun ρ hρ => ⟨rfl, ov_nck rfl rfl ((hρ 114 (lmem rfl)).trans rfl) hp169⟩) rfl rfl
                (ffc (d := 116) (v := p170) (hd_v rfl fun ρ hρ => ⟨rfl, ov_fldA rfl rfl underlying77 rfl sz62 (by decide) ((hρ 115 (lmem rfl)).trans rfl) hp173 rfl hv174⟩) rfl rfl
                (ffc (d := 117) (v := x178) (hd_v rfl fun ρ hρ => ⟨rfl, ov_ldV rfl underlying62 rfl rfl ((hρ 116 (lmem rfl)).trans rfl) hp177 hg179⟩) rfl rfl
                (ffc (d := 118) (v := p180) (hd_v rfl fun ρ hρ => ⟨rfl, ov_fldA rfl rfl underlying34 rfl sz2 (by decide) ((hρ 3 (lmem rfl)).trans h3) hp183 rfl hv184⟩) rfl rfl
                (ffc (d := 119) (v := .int .i64 x188) (hd_v rfl fun ρ hρ => ⟨rfl, ov_ldI rfl underlying2 rfl ((hρ 118 (lmem rfl)).trans rfl) hp187 hg189⟩) rfl rfl
                (ffc (d := 120) (v := p190) (hd_v rfl fun ρ hρ => ⟨rfl, ov_ixS rfl rfl rfl underlying62 sz26 ((hρ 117 (lmem rfl)).trans rfl) ((hρ 119 (lmem rfl)).trans rfl) hp195 h0196 hj197 hv198⟩) rfl rfl
                (ffc (d := 121) (v := .int .u64 x202) (hd_v rfl fun ρ hρ => ⟨rfl, ov_ldI rfl underlying26 rfl ((hρ 120 (lmem rfl)).trans rfl) hp201 hg203⟩) rfl rfl
                ffn))))))))) ?_
              refine lt_call (dt := some 122) rfl rfl (fun ρ hρ => ⟨rfl, opc_of rfl rfl is34 (ma_cons ((hρ 113 (lmem rfl)).trans rfl) (ma_cons ((hρ 121 (lmem rfl)).trans rfl) rfl))⟩) H (fun _ _ h _ => ⟨rfl, h⟩) fun r204 aw205 H => ?_
              refine lt_next (l := []) (hv := []) rfl rfl (pv_nil _)
                ffn ?_
              refine lt_end ?_
              refine ago_inBlock ?_
              exact ago_nilR (r := ()) (ares_0 rfl ) rfl H
            · replace H := cnd_f H hb168
              refine ago_seqE E58_33 ?_
              refine ago_cut (fun ρ => ρ 0 = m_0 ∧ ρ 2 = f_2 ∧ ρ 3 = i_3 ∧ ρ 42 = .int .u8 t_42 ∧ True) ⟨h0, h2, h3, h42, trivial⟩ (fun ρ ⟨h0, h2, h3, h42, _⟩ => ?_)
              refine ago_regE E58_34 (l := [0, 1]) rfl ?_
              refine lk (dt := some 124) R58_17_N rfl rfl rfl (opv_eqI rfl rfl rfl h42 rfl) ?_
              refine lk (dt := some 123) R58_17_N rfl rfl rfl (opv_assign rfl rfl rfl) ?_
              refine aops_nil ?_
              refine ago_condE  E58_35 rfl rfl (fun hb206 => ?_) (fun hb206 => ?_)
              · replace H := cnd_t H hb206
                obtain ⟨b208, i209, p207, hp210, hv211, H⟩ := H
                obtain ⟨b212, i213, x215, hp214, hg216, H⟩ := H
                obtain ⟨b218, i219, p217, hp220, hv221, H⟩ := H
                obtain ⟨b222, i223, x225, hp224, hg226, H⟩ := H
                refine ago_drawH (p := [0, 1, 2, 3, 4]) (tl := [(5, [0, 1, 2], []), (6, [0, 1, 2], []), (7, [], [])]) (hv := [(0, m_0), (1, p207), (2, Value.int .i64 x215), (3, p217), (4, Value.int .i64 x225)]) E58_36 mixed R58_18_N R58_18_O rfl (pv_cons rfl (pv_cons rfl (pv_cons rfl (pv_cons rfl (pv_cons rfl (pv_nil _))))))
                  (ffc (d := 125) (v := m_0) (hd_v rfl fun ρ hρ => ⟨rfl, opv_move rfl rfl ((hρ 0 (lmem rfl)).trans h0)⟩) rfl rfl
                  (ffc (d := 126) (v := p207) (hd_v rfl fun ρ hρ => ⟨rfl, ov_fldA rfl rfl underlying34 rfl sz3 (by decide) ((hρ 3 (lmem rfl)).trans h3) hp210 rfl hv211⟩) rfl rfl
                  (ffc (d := 127) (v := .int .i64 x215) (hd_v rfl fun ρ hρ => ⟨rfl, ov_ldI rfl underlying3 rfl ((hρ 126 (lmem rfl)).trans rfl) hp214 hg216⟩) rfl rfl
                  (ffc (d := 128) (v := p217) (hd_v rfl fun ρ hρ => ⟨rfl, ov_fldA rfl rfl underlying34 rfl sz2 (by decide) ((hρ 3 (lmem rfl)).trans h3) hp220 rfl hv221⟩) rfl rfl
                  (ffc (d := 129) (v := .int .i64 x225) (hd_v rfl fun ρ hρ => ⟨rfl, ov_ldI rfl underlying2 rfl ((hρ 128 (lmem rfl)).trans rfl) hp224 hg226⟩) rfl rfl
                  ffn))))) ?_
                refine lt_call (dt := some 130) rfl rfl (fun ρ hρ => ⟨rfl, opc_of rfl rfl is14 (ma_cons ((hρ 129 (lmem rfl)).trans rfl) rfl)⟩) H (fun _ _ h _ => ⟨rfl, h⟩) fun r227 aw228 H => ?_
                obtain ⟨hg216, H⟩ := H
                replace hg216 := hg216 _ _ hp214
                refine lt_next (l := [0, 1, 2]) (hv := []) rfl rfl (pv_nil _)
                  (ffc (d := 125) (v := m_0) (hd_v rfl fun ρ hρ => ⟨rfl, opv_move rfl rfl ((hρ 0 (lmem rfl)).trans h0)⟩) rfl rfl
                  (ffc (d := 126) (v := p207) (hd_v rfl fun ρ hρ => ⟨rfl, ov_fldA rfl rfl underlying34 rfl sz3 (by decide) ((hρ 3 (lmem rfl)).trans h3) hp210 rfl hv211⟩) rfl rfl
                  (ffc (d := 127) (v := .int .i64 x215) (hd_v rfl fun ρ hρ => ⟨rfl, ov_ldI rfl underlying3 rfl ((hρ 126 (lmem rfl)).trans rfl) hp214 hg216⟩) rfl rfl
                  ffn))) ?_
                obtain ⟨p229, aw230, hp231, ha232, H⟩ := H
                refine lt_val (dt := some 131) (v := p229) rfl rfl (fun ρ hρ => ⟨rfl, ov_bsA (r := [.int .u64 r227]) (vs := [.int .u64 r227]) rfl rfl underlying62 sz26 z26 rfl rfl rfl rfl rfl (mp_cons ((hρ 130 (lmem rfl)).trans rfl) rfl) (.one rfl .nil) hp231 ha232⟩) ?_
                obtain ⟨hg216, H⟩ := H
                replace hg216 := hg216 _ _ hp214
                refine lt_next (l := [0, 1, 2]) (hv := []) rfl rfl (pv_nil _)
                  (ffc (d := 125) (v := m_0) (hd_v rfl fun ρ hρ => ⟨rfl, opv_move rfl rfl ((hρ 0 (lmem rfl)).trans h0)⟩) rfl rfl
                  (ffc (d := 126) (v := p207) (hd_v rfl fun ρ hρ => ⟨rfl, ov_fldA rfl rfl underlying34 rfl sz3 (by decide) ((hρ 3 (lmem rfl)).trans h3) hp210 rfl hv211⟩) rfl rfl
                  (ffc (d := 127) (v := .int .i64 x215) (hd_v rfl fun ρ hρ => ⟨rfl, ov_ldI rfl underlying3 rfl ((hρ 126 (lmem rfl)).trans rfl) hp214 hg216⟩) rfl rfl
                  ffn))) ?_
                refine lt_call (dt := some 132) rfl rfl (fun ρ hρ => ⟨rfl, opc_of rfl rfl is71 (ma_cons ((hρ 125 (lmem rfl)).trans rfl) (ma_cons rfl (ma_cons ((hρ 127 (lmem rfl)).trans rfl) (ma_cons ((hρ 131 (lmem rfl)).trans rfl) rfl))))⟩) H (fun _ _ h _ => ⟨rfl, h⟩) fun r233 aw234 H => ?_
                refine lt_next (l := []) (hv := []) rfl rfl (pv_nil _)
                  ffn ?_
                refine lt_end ?_
                refine ago_inBlock ?_
                exact ago_nilR (r := ()) (ares_0 rfl ) rfl H
              · replace H := cnd_f H hb206
                refine ago_seqE E58_37 ?_
                refine ago_regE E58_38 (l := [0, 1]) rfl ?_
                refine lk (dt := some 134) R58_19_N rfl rfl rfl (opv_eqI rfl rfl rfl h42 rfl) ?_
                refine lk (dt := some 133) R58_19_N rfl rfl rfl (opv_assign rfl rfl rfl) ?_
                refine aops_nil ?_
                refine ago_condE  E58_39 rfl rfl (fun hb235 => ?_) (fun hb235 => ?_)
                · replace H := cnd_t H hb235
                  refine ago_regE E58_40 (l := [0, 1]) rfl ?_
                  refine lk (dt := some 135) R58_20_N rfl rfl rfl (opv_move rfl rfl h0) ?_
                  refine lk_call (dt := some 136) R58_20_N rfl rfl rfl (opc_of rfl rfl is72 (ma_cons rfl rfl)) H (fun _ _ h => ⟨rfl, h⟩) fun r236 aw237 H => ?_
                  refine aops_nil ?_
                  refine ago_inBlock ?_
                  exact ago_nilR (r := ()) (ares_0 rfl ) rfl H
                · replace H := cnd_f H hb235
                  refine ago_seqE E58_41 ?_
                  refine ago_regE E58_42 (l := [0, 1]) rfl ?_
                  refine lk (dt := some 138) R58_21_N rfl rfl rfl (opv_eqI rfl rfl rfl h42 rfl) ?_
                  refine lk (dt := some 137) R58_21_N rfl rfl rfl (opv_assign rfl rfl rfl) ?_
                  refine aops_nil ?_
                  refine ago_condE  E58_43 rfl rfl (fun hb238 => ?_) (fun hb238 => ?_)
                  · replace H := cnd_t H hb238
                    refine ago_seqE E58_44 ?_
                    refine ago_regE E58_45 (l := [0, 1, 2]) rfl ?_
                    refine lk (dt := some 139) R58_22_N rfl rfl rfl (opv_move rfl rfl h0) ?_
                    refine lk_call (dt := some 140) R58_22_N rfl rfl rfl (opc_of rfl rfl is37 (ma_cons rfl rfl)) H (fun _ _ h => ⟨rfl, h⟩) fun r239 aw240 H => ?_
                    refine lk (dt := some 4) R58_22_N rfl rfl rfl (opv_assign rfl rfl rfl) ?_
                    refine aops_nil ?_
                    refine ago_seqE E58_46 ?_
                    obtain ⟨hp241, H⟩ := H
                    obtain ⟨b243, i244, p242, hp245, hv246, H⟩ := H
                    obtain ⟨b247, i248, x250, hp249, hg251, H⟩ := H
                    obtain ⟨hp252, H⟩ := H
                    obtain ⟨b254, i255, p253, hp256, hv257, H⟩ := H
                    obtain ⟨b258, i259, x261, hp260, hg262, H⟩ := H
                    obtain ⟨v263, hq264, H⟩ := H
                    refine ago_drawH (p := [0, 1, 2, 3, 4, 5, 6, 7, 8, 9, 10, 11]) (tl := [(12, [0, 1, 2, 3, 4, 5, 6, 7, 8, 9, 10], []), (13, [0], [14, 15]), (16, [], [])]) (hv := [(0, m_0), (1, m_0), (2, m_0), (3, p242), (4, x250), (5, f_2), (6, f_2), (7, p253), (8, Value.int .i64 x261), (9, Value.int .i64 (IntKind.i64.wrap (x261 - 1))), (10, v263), (11, Value.int .u64 r239)]) E58_47 mixed R58_23_N R58_23_O rfl (pv_cons rfl (pv_cons rfl (pv_cons rfl (pv_cons rfl (pv_cons rfl (pv_cons rfl (pv_cons rfl (pv_cons rfl (pv_cons rfl (pv_cons rfl (pv_cons rfl (pv_cons rfl (pv_nil _)))))))))))))
                      (ffc (d := 141) (v := m_0) (hd_v rfl fun ρ hρ => ⟨rfl, opv_move rfl rfl ((hρ 0 (lmem rfl)).trans h0)⟩) rfl rfl
                      (ffc (d := 142) (v := m_0) (hd_v rfl fun ρ hρ => ⟨rfl, opv_move rfl rfl ((hρ 0 (lmem rfl)).trans h0)⟩) rfl rfl
                      (ffc (d := 143) (v := m_0) (hd_v rfl fun ρ hρ => ⟨rfl, ov_nck rfl rfl ((hρ 142 (lmem rfl)).trans rfl) hp241⟩) rfl rfl
                      (ffc (d := 144) (v := p242) (hd_v rfl fun ρ hρ => ⟨rfl, ov_fldA rfl rfl underlying77 rfl sz62 (by decide) ((hρ 143 (lmem rfl)).trans rfl) hp245 rfl hv246⟩) rfl rfl
                      (ffc (d := 145) (v := x250) (hd_v rfl fun ρ hρ => ⟨rfl, ov_ldV rfl underlying62 rfl rfl ((hρ 144 (lmem rfl)).trans rfl) hp249 hg251⟩) rfl rfl
                      (ffc (d := 146) (v := f_2) (hd_v rfl fun ρ hρ => ⟨rfl, opv_move rfl rfl ((hρ 2 (lmem rfl)).trans h2)⟩) rfl rfl
                      (ffc (d := 147) (v := f_2) (hd_v rfl fun ρ hρ => ⟨rfl, ov_nck rfl rfl ((hρ 146 (lmem rfl)).trans rfl) hp252⟩) rfl rfl
                      (ffc (d := 148) (v := p253) (hd_v rfl fun ρ hρ => ⟨rfl, ov_fldA rfl rfl underlying85 rfl sz3 (by decide) ((hρ 147 (lmem rfl)).trans rfl) hp256 rfl hv257⟩) rfl rfl
                      (ffc (d := 149) (v := .int .i64 x261) (hd_v rfl fun ρ hρ => ⟨rfl, ov_ldI rfl underlying3 rfl ((hρ 148 (lmem rfl)).trans rfl) hp260 hg262⟩) rfl rfl
                      (ffc (d := 150) (v := .int .i64 (IntKind.i64.wrap (x261 - 1))) (hd_v rfl fun ρ hρ => ⟨rfl, opv_sub rfl rfl rfl ((hρ 149 (lmem rfl)).trans rfl) rfl⟩) rfl rfl
                      (ffc (d := 151) (v := v263) (hd_v rfl fun ρ hρ => ⟨rfl, ov_cutV rfl rfl underlying62 sz26 ((hρ 145 (lmem rfl)).trans rfl) (bndN _ _ _) (bndS ((hρ 150 (lmem rfl)).trans rfl)) hq264⟩) rfl rfl
                      (ffc (d := 152) (v := .int .u64 r239) (hd_v rfl fun ρ hρ => ⟨rfl, opv_move rfl rfl ((hρ 4 (lmem rfl)).trans rfl)⟩) rfl rfl
                      ffn)))))))))))) ?_
                    obtain ⟨p265, aw266, hp267, ha268, H⟩ := H
                    refine lt_val (dt := some 153) (v := p265) rfl rfl (fun ρ hρ => ⟨rfl, ov_bsA (r := [.int .u64 r239]) (vs := [.int .u64 r239]) rfl rfl underlying62 sz26 z26 rfl rfl rfl rfl rfl (mp_cons ((hρ 152 (lmem rfl)).trans rfl) rfl) (.one rfl .nil) hp267 ha268⟩) ?_
                    obtain ⟨hg251, H⟩ := H
                    replace hg251 := hg251 _ _ hp249
                    obtain ⟨hg262, H⟩ := H
                    replace hg262 := hg262 _ _ hp260
                    obtain ⟨hq264, H⟩ := H
                    refine lt_next (l := [0, 1, 2, 3, 4, 5, 6, 7, 8, 9, 10]) (hv := []) rfl rfl (pv_nil _)
                      (ffc (d := 141) (v := m_0) (hd_v rfl fun ρ hρ => ⟨rfl, opv_move rfl rfl ((hρ 0 (lmem rfl)).trans h0)⟩) rfl rfl
                      (ffc (d := 142) (v := m_0) (hd_v rfl fun ρ hρ => ⟨rfl, opv_move rfl rfl ((hρ 0 (lmem rfl)).trans h0)⟩) rfl rfl
                      (ffc (d := 143) (v := m_0) (hd_v rfl fun ρ hρ => ⟨rfl, ov_nck rfl rfl ((hρ 142 (lmem rfl)).trans rfl) hp241⟩) rfl rfl
                      (ffc (d := 144) (v := p242) (hd_v rfl fun ρ hρ => ⟨rfl, ov_fldA rfl rfl underlying77 rfl sz62 (by decide) ((hρ 143 (lmem rfl)).trans rfl) hp245 rfl hv246⟩) rfl rfl
                      (ffc (d := 145) (v := x250) (hd_v rfl fun ρ hρ => ⟨rfl, ov_ldV rfl underlying62 rfl rfl ((hρ 144 (lmem rfl)).trans rfl) hp249 hg251⟩) rfl rfl
                      (ffc (d := 146) (v := f_2) (hd_v rfl fun ρ hρ => ⟨rfl, opv_move rfl rfl ((hρ 2 (lmem rfl)).trans h2)⟩) rfl rfl
                      (ffc (d := 147) (v := f_2) (hd_v rfl fun ρ hρ => ⟨rfl, ov_nck rfl rfl ((hρ 146 (lmem rfl)).trans rfl) hp252⟩) rfl rfl
                      (ffc (d := 148) (v := p253) (hd_v rfl fun ρ hρ => ⟨rfl, ov_fldA rfl rfl underlying85 rfl sz3 (by decide) ((hρ 147 (lmem rfl)).trans rfl) hp256 rfl hv257⟩) rfl rfl
                      (ffc (d := 149) (v := .int .i64 x261) (hd_v rfl fun ρ hρ => ⟨rfl, ov_ldI rfl underlying3 rfl ((hρ 148 (lmem rfl)).trans rfl) hp260 hg262⟩) rfl rfl
                      (ffc (d := 150) (v := .int .i64 (IntKind.i64.wrap (x261 - 1))) (hd_v rfl fun ρ hρ => ⟨rfl, opv_sub rfl rfl rfl ((hρ 149 (lmem rfl)).trans rfl) rfl⟩) rfl rfl
                      (ffc (d := 151) (v := v263) (hd_v rfl fun ρ hρ => ⟨rfl, ov_cutV rfl rfl underlying62 sz26 ((hρ 145 (lmem rfl)).trans rfl) (bndN _ _ _) (bndS ((hρ 150 (lmem rfl)).trans rfl)) hq264⟩) rfl rfl
                      ffn))))))))))) ?_
                    obtain ⟨v269, aw270, hq271, H⟩ := H
                    refine lt_val (dt := some 154) (v := v269) rfl rfl (fun ρ hρ => ⟨rfl, ov_app rfl rfl rfl rfl underlying62 sz26 by26 underlying62 rfl z26 rfl (by decide) (by decide) ((hρ 151 (lmem rfl)).trans rfl) ((hρ 153 (lmem rfl)).trans rfl) hq271⟩) ?_
                    obtain ⟨hp272, H⟩ := H
                    obtain ⟨b274, i275, p273, hp276, hv277, H⟩ := H
                    refine lt_next (l := [0, 14, 15]) (hv := [(14, m_0), (15, p273)]) rfl rfl (pv_cons rfl (pv_cons rfl (pv_nil _)))
                      (ffc (d := 141) (v := m_0) (hd_v rfl fun ρ hρ => ⟨rfl, opv_move rfl rfl ((hρ 0 (lmem rfl)).trans h0)⟩) rfl rfl
                      (ffc (d := 155) (v := m_0) (hd_v rfl fun ρ hρ => ⟨rfl, ov_nck rfl rfl ((hρ 141 (lmem rfl)).trans rfl) hp272⟩) rfl rfl
                      (ffc (d := 156) (v := p273) (hd_v rfl fun ρ hρ => ⟨rfl, ov_fldA rfl rfl underlying77 rfl sz62 (by decide) ((hρ 155 (lmem rfl)).trans rfl) hp276 rfl hv277⟩) rfl rfl
                      ffn))) ?_
                    obtain ⟨b279, i280, aw278, hp281, hw282, ho283, ha284, H⟩ := H
                    refine lt_val (dt := none) (v := undef) rfl rfl (fun ρ hρ => ⟨rfl, ov_st rfl rfl rfl ((hρ 156 (lmem rfl)).trans rfl) ((hρ 154 (lmem rfl)).trans rfl) (cells_all ho283) sz62 hp281 hw282 ho283 ha284⟩) ?_
                    refine lt_next (l := []) (hv := []) rfl rfl (pv_nil _)
                      ffn ?_
                    refine lt_end ?_
                    refine ago_cut (fun ρ => ρ 0 = m_0 ∧ True) ⟨h0, trivial⟩ (fun ρ ⟨h0, _⟩ => ?_)
                    obtain ⟨hp285, H⟩ := H
                    obtain ⟨b287, i288, p286, hp289, hv290, H⟩ := H
                    obtain ⟨b291, i292, x294, hp293, hg295, H⟩ := H
                    obtain ⟨hp296, H⟩ := H
                    obtain ⟨b298, i299, p297, hp300, hv301, H⟩ := H
                    obtain ⟨b302, i303, x305, hp304, hg306, H⟩ := H
                    obtain ⟨q308, l309, c310, n307, hv311, hn312, H⟩ := H
                    obtain ⟨v313, hq314, H⟩ := H
                    obtain ⟨hp315, H⟩ := H
                    obtain ⟨b317, i318, p316, hp319, hv320, H⟩ := H
                    refine ago_drawH (p := [0, 1, 2, 3, 4, 5, 6, 7, 8, 9, 10, 11, 12, 13]) (tl := [(14, [], [])]) (hv := [(0, m_0), (1, m_0), (2, m_0), (3, p286), (4, x294), (5, m_0), (6, m_0), (7, p297), (8, x305), (9, Value.int .i64 n307), (10, Value.int .i64 (IntKind.i64.wrap (n307 - 1))), (11, v313), (12, m_0), (13, p316)]) E58_48 mixed R58_24_N R58_24_O rfl (pv_cons rfl (pv_cons rfl (pv_cons rfl (pv_cons rfl (pv_cons rfl (pv_cons rfl (pv_cons rfl (pv_cons rfl (pv_cons rfl (pv_cons rfl (pv_cons rfl (pv_cons rfl (pv_cons rfl (pv_cons rfl (pv_nil _)))))))))))))))
                      (ffc (d := 157) (v := m_0) (hd_v rfl fun ρ hρ => ⟨rfl, opv_move rfl rfl ((hρ 0 (lmem rfl)).trans h0)⟩) rfl rfl
                      (ffc (d := 158) (v := m_0) (hd_v rfl fun ρ hρ => ⟨rfl, opv_move rfl rfl ((hρ 0 (lmem rfl)).trans h0)⟩) rfl rfl
                      (ffc (d := 159) (v := m_0) (hd_v rfl fun ρ hρ => ⟨rfl, ov_nck rfl rfl ((hρ 158 (lmem rfl)).trans rfl) hp285⟩) rfl rfl
                      (ffc (d := 160) (v := p286) (hd_v rfl fun ρ hρ => ⟨rfl, ov_fldA rfl rfl underlying77 rfl sz70 (by decide) ((hρ 159 (lmem rfl)).trans rfl) hp289 rfl hv290⟩) rfl rfl
                      (ffc (d := 161) (v := x294) (hd_v rfl fun ρ hρ => ⟨rfl, ov_ldV rfl underlying70 rfl rfl ((hρ 160 (lmem rfl)).trans rfl) hp293 hg295⟩) rfl rfl
                      (ffc (d := 162) (v := m_0) (hd_v rfl fun ρ hρ => ⟨rfl, opv_move rfl rfl ((hρ 0 (lmem rfl)).trans h0)⟩) rfl rfl
                      (ffc (d := 163) (v := m_0) (hd_v rfl fun ρ hρ => ⟨rfl, ov_nck rfl rfl ((hρ 162 (lmem rfl)).trans rfl) hp296⟩) rfl rfl
                      (ffc (d := 164) (v := p297) (hd_v rfl fun ρ hρ => ⟨rfl, ov_fldA rfl rfl underlying77 rfl sz70 (by decide) ((hρ 163 (lmem rfl)).trans rfl) hp300 rfl hv301⟩) rfl rfl
                      (ffc (d := 165) (v := x305) (hd_v rfl fun ρ hρ => ⟨rfl, ov_ldV rfl underlying70 rfl rfl ((hρ 164 (lmem rfl)).trans rfl) hp304 hg306⟩) rfl rfl
                      (ffc (d := 166) (v := .int .i64 n307) (hd_v rfl fun ρ hρ => ⟨rfl, ov_len rfl rfl rfl underlying70 ((hρ 165 (lmem rfl)).trans rfl) hv311 hn312⟩) rfl rfl
                      (ffc (d := 167) (v := .int .i64 (IntKind.i64.wrap (n307 - 1))) (hd_v rfl fun ρ hρ => ⟨rfl, opv_sub rfl rfl rfl ((hρ 166 (lmem rfl)).trans rfl) rfl⟩) rfl rfl
                      (ffc (d := 168) (v := v313) (hd_v rfl fun ρ hρ => ⟨rfl, ov_cutV rfl rfl underlying70 sz85 ((hρ 161 (lmem rfl)).trans rfl) (bndN _ _ _) (bndS ((hρ 167 (lmem rfl)).trans rfl)) hq314⟩) rfl rfl
                      (ffc (d := 169) (v := m_0) (hd_v rfl fun ρ hρ => ⟨rfl, ov_nck rfl rfl ((hρ 157 (lmem rfl)).trans rfl) hp315⟩) rfl rfl
                      (ffc (d := 170) (v := p316) (hd_v rfl fun ρ hρ => ⟨rfl, ov_fldA rfl rfl underlying77 rfl sz70 (by decide) ((hρ 169 (lmem rfl)).trans rfl) hp319 rfl hv320⟩) rfl rfl
                      ffn)))))))))))))) ?_
                    obtain ⟨b322, i323, aw321, hp324, hw325, ho326, ha327, H⟩ := H
                    refine lt_val (dt := none) (v := undef) rfl rfl (fun ρ hρ => ⟨rfl, ov_st rfl rfl rfl ((hρ 170 (lmem rfl)).trans rfl) ((hρ 168 (lmem rfl)).trans rfl) (cells_all ho326) sz70 hp324 hw325 ho326 ha327⟩) ?_
                    refine lt_next (l := []) (hv := []) rfl rfl (pv_nil _)
                      ffn ?_
                    refine lt_end ?_
                    refine ago_inBlock ?_
                    exact ago_nilR (r := ()) (ares_0 rfl ) rfl H
                  · replace H := cnd_f H hb238
                    refine ago_seqE E58_49 ?_
                    refine ago_regE E58_50 (l := [0, 1]) rfl ?_
                    refine lk (dt := some 172) R58_25_N rfl rfl rfl (opv_eqI rfl rfl rfl h42 rfl) ?_
                    refine lk (dt := some 171) R58_25_N rfl rfl rfl (opv_assign rfl rfl rfl) ?_
                    refine aops_nil ?_
                    refine ago_condE  E58_51 rfl rfl (fun hb328 => ?_) (fun hb328 => ?_)
                    · replace H := cnd_t H hb328
                      refine ago_regE E58_52 (l := [0, 1, 2, 3]) rfl ?_
                      refine lk (dt := some 173) R58_26_N rfl rfl rfl (opv_move rfl rfl h0) ?_
                      obtain ⟨b330, i331, p329, hp332, hv333, H⟩ := H
                      refine lk (dt := some 174) R58_26_N rfl rfl rfl (ov_fldA rfl rfl underlying34 rfl sz2 (by decide) h3 hp332 rfl hv333) ?_
                      obtain ⟨b334, i335, x337, hp336, hg338, H⟩ := H
                      refine lk (dt := some 175) R58_26_N rfl rfl rfl (ov_ldI rfl underlying2 rfl rfl hp336 hg338) ?_
                      refine lk_call (dt := some 176) R58_26_N rfl rfl rfl (opc_of rfl rfl is71 (ma_cons rfl (ma_cons rfl (ma_cons rfl (ma_cons rfl rfl))))) H (fun _ _ h => ⟨rfl, h⟩) fun r339 aw340 H => ?_
                      refine aops_nil ?_
                      refine ago_inBlock ?_
                      exact ago_nilR (r := ()) (ares_0 rfl ) rfl H
                    · replace H := cnd_f H hb328
                      refine ago_seqE E58_53 ?_
                      refine ago_regE E58_54 (l := [0, 1]) rfl ?_
                      refine lk (dt := some 178) R58_27_N rfl rfl rfl (opv_eqI rfl rfl rfl h42 rfl) ?_
                      refine lk (dt := some 177) R58_27_N rfl rfl rfl (opv_assign rfl rfl rfl) ?_
                      refine aops_nil ?_
                      refine ago_condE  E58_55 rfl rfl (fun hb341 => ?_) (fun hb341 => ?_)
                      · replace H := cnd_t H hb341
                        refine ago_regE E58_56 (l := [0, 1, 2, 3, 4, 5]) rfl ?_
                        refine lk (dt := some 179) R58_28_N rfl rfl rfl (opv_move rfl rfl h0) ?_
                        obtain ⟨b343, i344, p342, hp345, hv346, H⟩ := H
                        refine lk (dt := some 180) R58_28_N rfl rfl rfl (ov_fldA rfl rfl underlying34 rfl sz2 (by decide) h3 hp345 rfl hv346) ?_
                        obtain ⟨b347, i348, x350, hp349, hg351, H⟩ := H
                        refine lk (dt := some 181) R58_28_N rfl rfl rfl (ov_ldI rfl underlying2 rfl rfl hp349 hg351) ?_
                        refine lk_call (dt := some 182) R58_28_N rfl rfl rfl (opc_of rfl rfl is14 (ma_cons rfl rfl)) H (fun _ _ h => ⟨rfl, h⟩) fun r352 aw353 H => ?_
                        obtain ⟨p354, aw355, hp356, ha357, H⟩ := H
                        refine lk (dt := some 183) R58_28_N rfl rfl rfl (ov_bsA (r := [.int .u64 r352]) (vs := [.int .u64 r352]) rfl rfl underlying62 sz26 z26 rfl rfl rfl rfl rfl (mp_cons rfl rfl) (.one rfl .nil) hp356 ha357) ?_
                        refine lk_call (dt := some 184) R58_28_N rfl rfl rfl (opc_of rfl rfl is71 (ma_cons rfl (ma_cons rfl (ma_cons rfl (ma_cons rfl rfl))))) H (fun _ _ h => ⟨rfl, h⟩) fun r358 aw359 H => ?_
                        refine aops_nil ?_
                        refine ago_inBlock ?_
                        exact ago_nilR (r := ()) (ares_0 rfl ) rfl H
                      · replace H := cnd_f H hb341
                        refine ago_seqE E58_57 ?_
                        refine ago_regE E58_58 (l := [0, 1]) rfl ?_
                        refine lk (dt := some 186) R58_29_N rfl rfl rfl (opv_eqI rfl rfl rfl h42 rfl) ?_
                        refine lk (dt := some 185) R58_29_N rfl rfl rfl (opv_assign rfl rfl rfl) ?_
                        refine aops_nil ?_
                        refine ago_condE  E58_59 rfl rfl (fun hb360 => ?_) (fun hb360 => ?_)
                        · replace H := cnd_t H hb360
                          refine ago_cut (fun ρ => ρ 2 = f_2 ∧ ρ 3 = i_3 ∧ True) ⟨h2, h3, trivial⟩ (fun ρ ⟨h2, h3, _⟩ => ?_)
                          refine ago_regE E58_60 (l := [0, 1, 2, 3, 4, 5]) rfl ?_
                          refine lk (dt := some 187) R58_30_N rfl rfl rfl (opv_move rfl rfl h2) ?_
                          obtain ⟨b362, i363, p361, hp364, hv365, H⟩ := H
                          refine lk (dt := some 188) R58_30_N rfl rfl rfl (ov_fldA rfl rfl underlying34 rfl sz2 (by decide) h3 hp364 rfl hv365) ?_
                          obtain ⟨b366, i367, x369, hp368, hg370, H⟩ := H
                          refine lk (dt := some 189) R58_30_N rfl rfl rfl (ov_ldI rfl underlying2 rfl rfl hp368 hg370) ?_
                          obtain ⟨hp371, H⟩ := H
                          refine lk (dt := some 190) R58_30_N rfl rfl rfl (ov_nck rfl rfl rfl hp371) ?_
                          obtain ⟨b373, i374, p372, hp375, hv376, H⟩ := H
                          refine lk (dt := some 191) R58_30_N rfl rfl rfl (ov_fldA rfl rfl underlying85 rfl sz3 (by decide) rfl hp375 rfl hv376) ?_
                          obtain ⟨b378, i379, aw377, hp380, hw381, ho382, ha383, H⟩ := H
                          refine lk (dt := none) R58_30_N rfl rfl rfl (ov_st rfl rfl rfl rfl rfl rfl sz3 hp380 hw381 ho382 ha383) ?_
                          refine aops_nil ?_
                          refine ago_inBlock ?_
                          exact ago_nilR (r := ()) (ares_0 rfl ) rfl H
                        · replace H := cnd_f H hb360
                          refine ago_seqE E58_61 ?_
                          refine ago_cut (fun ρ => ρ 0 = m_0 ∧ ρ 2 = f_2 ∧ ρ 3 = i_3 ∧ ρ 42 = .int .u8 t_42 ∧ True) ⟨h0, h2, h3, h42, trivial⟩ (fun ρ ⟨h0, h2, h3, h42, _⟩ => ?_)
                          refine ago_regE E58_62 (l := [0, 1]) rfl ?_
                          refine lk (dt := some 193) R58_31_N rfl rfl rfl (opv_eqI rfl rfl rfl h42 rfl) ?_
                          refine lk (dt := some 192) R58_31_N rfl rfl rfl (opv_assign rfl rfl rfl) ?_
                          refine aops_nil ?_
                          refine ago_condE  E58_63 rfl rfl (fun hb384 => ?_) (fun hb384 => ?_)
                          · replace H := cnd_t H hb384
                            refine ago_seqE E58_64 ?_
                            refine ago_regE E58_65 (l := [0, 1, 2, 3]) rfl ?_
                            refine lk (dt := some 194) R58_32_N rfl rfl rfl (opv_move rfl rfl h0) ?_
                            refine lk_call (dt := some 195) R58_32_N rfl rfl rfl (opc_of rfl rfl is37 (ma_cons rfl rfl)) H (fun _ _ h => ⟨rfl, h⟩) fun r385 aw386 H => ?_
                            refine lk_call (dt := some 196) R58_32_N rfl rfl rfl (opc_of rfl rfl is73 (ma_cons rfl rfl)) H (fun _ _ h => ⟨rfl, h⟩) fun r387 aw388 H => ?_
                            refine lk (dt := some 197) R58_32_N rfl rfl rfl (opv_eqI rfl rfl rfl rfl rfl) ?_
                            refine aops_nil ?_
                            refine ago_condE  E58_66 rfl rfl (fun hb389 => ?_) (fun hb389 => ?_)
                            · replace H := cnd_t H hb389
                              refine ago_regE E58_67 (l := [0, 1, 2, 3, 4, 5]) rfl ?_
                              refine lk (dt := some 198) R58_33_N rfl rfl rfl (opv_move rfl rfl h2) ?_
                              obtain ⟨b391, i392, p390, hp393, hv394, H⟩ := H
                              refine lk (dt := some 199) R58_33_N rfl rfl rfl (ov_fldA rfl rfl underlying34 rfl sz2 (by decide) h3 hp393 rfl hv394) ?_
                              obtain ⟨b395, i396, x398, hp397, hg399, H⟩ := H
                              refine lk (dt := some 200) R58_33_N rfl rfl rfl (ov_ldI rfl underlying2 rfl rfl hp397 hg399) ?_
                              obtain ⟨hp400, H⟩ := H
                              refine lk (dt := some 201) R58_33_N rfl rfl rfl (ov_nck rfl rfl rfl hp400) ?_
                              obtain ⟨b402, i403, p401, hp404, hv405, H⟩ := H
                              refine lk (dt := some 202) R58_33_N rfl rfl rfl (ov_fldA rfl rfl underlying85 rfl sz3 (by decide) rfl hp404 rfl hv405) ?_
                              obtain ⟨b407, i408, aw406, hp409, hw410, ho411, ha412, H⟩ := H
                              refine lk (dt := none) R58_33_N rfl rfl rfl (ov_st rfl rfl rfl rfl rfl rfl sz3 hp409 hw410 ho411 ha412) ?_
                              refine aops_nil ?_
                              refine ago_inBlock ?_
                              exact ago_nilR (r := ()) (ares_0 rfl ) rfl H
                            · replace H := cnd_f H hb389
                              refine ago_skipE E58_68 ?_
                              refine ago_inBlock ?_
                              exact ago_nilR (r := ()) (ares_0 rfl ) rfl H
                          · replace H := cnd_f H hb384
                            refine ago_seqE E58_69 ?_
                            refine ago_regE E58_70 (l := [0, 1]) rfl ?_
                            refine lk (dt := some 204) R58_34_N rfl rfl rfl (opv_eqI rfl rfl rfl h42 rfl) ?_
                            refine lk (dt := some 203) R58_34_N rfl rfl rfl (opv_assign rfl rfl rfl) ?_
                            refine aops_nil ?_
                            refine ago_condE  E58_71 rfl rfl (fun hb413 => ?_) (fun hb413 => ?_)
                            · replace H := cnd_t H hb413
                              refine ago_seqE E58_72 ?_
                              refine ago_regE E58_73 (l := [0, 1, 2]) rfl ?_
                              refine lk (dt := some 205) R58_35_N rfl rfl rfl (opv_move rfl rfl h0) ?_
                              refine lk_call (dt := some 206) R58_35_N rfl rfl rfl (opc_of rfl rfl is37 (ma_cons rfl rfl)) H (fun _ _ h => ⟨rfl, h⟩) fun r414 aw415 H => ?_
                              refine lk (dt := some 5) R58_35_N rfl rfl rfl (opv_assign rfl rfl rfl) ?_
                              refine aops_nil ?_
                              obtain ⟨hp416, H⟩ := H
                              obtain ⟨b418, i419, p417, hp420, hv421, H⟩ := H
                              obtain ⟨b422, i423, x425, hp424, hg426, H⟩ := H
                              obtain ⟨hp427, H⟩ := H
                              obtain ⟨b429, i430, p428, hp431, hv432, H⟩ := H
                              obtain ⟨b433, i434, x436, hp435, hg437, H⟩ := H
                              obtain ⟨q439, l440, c441, n438, hv442, hn443, H⟩ := H
                              obtain ⟨b445, i446, p444, hp447, hv448, H⟩ := H
                              obtain ⟨b449, i450, x452, hp451, hg453, H⟩ := H
                              obtain ⟨v454, hq455, H⟩ := H
                              refine ago_drawH (p := [0, 1, 2, 3, 4, 5, 6, 7, 8, 9, 10, 11, 12, 13, 14]) (tl := [(15, [0, 1, 2, 3, 4, 5, 6, 7, 8, 9, 10, 11, 12, 13], []), (16, [0], [17, 18]), (19, [], [])]) (hv := [(0, m_0), (1, m_0), (2, m_0), (3, p417), (4, x425), (5, m_0), (6, m_0), (7, p428), (8, x436), (9, Value.int .i64 n438), (10, p444), (11, Value.int .i64 x452), (12, Value.int .i64 (IntKind.i64.wrap (n438 - x452))), (13, v454), (14, Value.int .u64 r414)]) E58_74 mixed R58_36_N R58_36_O rfl (pv_cons rfl (pv_cons rfl (pv_cons rfl (pv_cons rfl (pv_cons rfl (pv_cons rfl (pv_cons rfl (pv_cons rfl (pv_cons rfl (pv_cons rfl (pv_cons rfl (pv_cons rfl (pv_cons rfl (pv_cons rfl (pv_cons rfl (pv_nil _))))))))))))))))
                                (ffc (d := 207) (v := m_0) (hd_v rfl fun ρ hρ => ⟨rfl, opv_move rfl rfl ((hρ 0 (lmem rfl)).trans h0)⟩) rfl rfl
                                (ffc (d := 208) (v := m_0) (hd_v rfl fun ρ hρ => ⟨rfl, opv_move rfl rfl ((hρ 0 (lmem rfl)).trans h0)⟩) rfl rfl
                                (ffc (d := 209) (v := m_0) (hd_v rfl fun ρ hρ => ⟨rfl, ov_nck rfl rfl ((hρ 208 (lmem rfl)).trans rfl) hp416⟩) rfl rfl
                                (ffc (d := 210) (v := p417) (hd_v rfl fun ρ hρ => ⟨rfl, ov_fldA rfl rfl underlying77 rfl sz62 (by decide) ((hρ 209 (lmem rfl)).trans rfl) hp420 rfl hv421⟩) rfl rfl
                                (ffc (d := 211) (v := x425) (hd_v rfl fun ρ hρ => ⟨rfl, ov_ldV rfl underlying62 rfl rfl ((hρ 210 (lmem rfl)).trans rfl) hp424 hg426⟩) rfl rfl
                                (ffc (d := 212) (v := m_0) (hd_v rfl fun ρ hρ => ⟨rfl, opv_move rfl rfl ((hρ 0 (lmem rfl)).trans h0)⟩) rfl rfl
                                (ffc (d := 213) (v := m_0) (hd_v rfl fun ρ hρ => ⟨rfl, ov_nck rfl rfl ((hρ 212 (lmem rfl)).trans rfl) hp427⟩) rfl rfl
                                (ffc (d := 214) (v := p428) (hd_v rfl fun ρ hρ => ⟨rfl, ov_fldA rfl rfl underlying77 rfl sz62 (by decide) ((hρ 213 (lmem rfl)).trans rfl) hp431 rfl hv432⟩) rfl rfl
                                (ffc (d := 215) (v := x436) (hd_v rfl fun ρ hρ => ⟨rfl, ov_ldV rfl underlying62 rfl rfl ((hρ 214 (lmem rfl)).trans rfl) hp435 hg437⟩) rfl rfl
                                (ffc (d := 216) (v := .int .i64 n438) (hd_v rfl fun ρ hρ => ⟨rfl, ov_len rfl rfl rfl underlying62 ((hρ 215 (lmem rfl)).trans rfl) hv442 hn443⟩) rfl rfl
                                (ffc (d := 217) (v := p444) (hd_v rfl fun ρ hρ => ⟨rfl, ov_fldA rfl rfl underlying34 rfl sz2 (by decide) ((hρ 3 (lmem rfl)).trans h3) hp447 rfl hv448⟩) rfl rfl
                                (ffc (d := 218) (v := .int .i64 x452) (hd_v rfl fun ρ hρ => ⟨rfl, ov_ldI rfl underlying2 rfl ((hρ 217 (lmem rfl)).trans rfl) hp451 hg453⟩) rfl rfl
                                (ffc (d := 219) (v := .int .i64 (IntKind.i64.wrap (n438 - x452))) (hd_v rfl fun ρ hρ => ⟨rfl, opv_sub rfl rfl rfl ((hρ 216 (lmem rfl)).trans rfl) ((hρ 218 (lmem rfl)).trans rfl)⟩) rfl rfl
                                (ffc (d := 220) (v := v454) (hd_v rfl fun ρ hρ => ⟨rfl, ov_cutV rfl rfl underlying62 sz26 ((hρ 211 (lmem rfl)).trans rfl) (bndN _ _ _) (bndS ((hρ 219 (lmem rfl)).trans rfl)) hq455⟩) rfl rfl
                                (ffc (d := 221) (v := .int .u64 r414) (hd_v rfl fun ρ hρ => ⟨rfl, opv_move rfl rfl ((hρ 5 (lmem rfl)).trans rfl)⟩) rfl rfl
                                ffn))))))))))))))) ?_
                              obtain ⟨p456, aw457, hp458, ha459, H⟩ := H
                              refine lt_val (dt := some 222) (v := p456) rfl rfl (fun ρ hρ => ⟨rfl, ov_bsA (r := [.int .u64 r414]) (vs := [.int .u64 r414]) rfl rfl underlying62 sz26 z26 rfl rfl rfl rfl rfl (mp_cons ((hρ 221 (lmem rfl)).trans rfl) rfl) (.one rfl .nil) hp458 ha459⟩) ?_
                              obtain ⟨hg426, H⟩ := H
                              replace hg426 := hg426 _ _ hp424
                              obtain ⟨hg437, H⟩ := H
                              replace hg437 := hg437 _ _ hp435
                              obtain ⟨hg453, H⟩ := H
                              replace hg453 := hg453 _ _ hp451
                              obtain ⟨hq455, H⟩ := H
                              refine lt_next (l := [0, 1, 2, 3, 4, 5, 6, 7, 8, 9, 10, 11, 12, 13]) (hv := []) rfl rfl (pv_nil _)
                                (ffc (d := 207) (v := m_0) (hd_v rfl fun ρ hρ => ⟨rfl, opv_move rfl rfl ((hρ 0 (lmem rfl)).trans h0)⟩) rfl rfl
                                (ffc (d := 208) (v := m_0) (hd_v rfl fun ρ hρ => ⟨rfl, opv_move rfl rfl ((hρ 0 (lmem rfl)).trans h0)⟩) rfl rfl
                                (ffc (d := 209) (v := m_0) (hd_v rfl fun ρ hρ => ⟨rfl, ov_nck rfl rfl ((hρ 208 (lmem rfl)).trans rfl) hp416⟩) rfl rfl
                                (ffc (d := 210) (v := p417) (hd_v rfl fun ρ hρ => ⟨rfl, ov_fldA rfl rfl underlying77 rfl sz62 (by decide) ((hρ 209 (lmem rfl)).trans rfl) hp420 rfl hv421⟩) rfl rfl
                                (ffc (d := 211) (v := x425) (hd_v rfl fun ρ hρ => ⟨rfl, ov_ldV rfl underlying62 rfl rfl ((hρ 210 (lmem rfl)).trans rfl) hp424 hg426⟩) rfl rfl
                                (ffc (d := 212) (v := m_0) (hd_v rfl fun ρ hρ => ⟨rfl, opv_move rfl rfl ((hρ 0 (lmem rfl)).trans h0)⟩) rfl rfl
                                (ffc (d := 213) (v := m_0) (hd_v rfl fun ρ hρ => ⟨rfl, ov_nck rfl rfl ((hρ 212 (lmem rfl)).trans rfl) hp427⟩) rfl rfl
                                (ffc (d := 214) (v := p428) (hd_v rfl fun ρ hρ => ⟨rfl, ov_fldA rfl rfl underlying77 rfl sz62 (by decide) ((hρ 213 (lmem rfl)).trans rfl) hp431 rfl hv432⟩) rfl rfl
                                (ffc (d := 215) (v := x436) (hd_v rfl fun ρ hρ => ⟨rfl, ov_ldV rfl underlying62 rfl rfl ((hρ 214 (lmem rfl)).trans rfl) hp435 hg437⟩) rfl rfl
                                (ffc (d := 216) (v := .int .i64 n438) (hd_v rfl fun ρ hρ => ⟨rfl, ov_len rfl rfl rfl underlying62 ((hρ 215 (lmem rfl)).trans rfl) hv442 hn443⟩) rfl rfl
                                (ffc (d := 217) (v := p444) (hd_v rfl fun ρ hρ => ⟨rfl, ov_fldA rfl rfl underlying34 rfl sz2 (by decide) ((hρ 3 (lmem rfl)).trans h3) hp447 rfl hv448⟩) rfl rfl
                                (ffc (d := 218) (v := .int .i64 x452) (hd_v rfl fun ρ hρ => ⟨rfl, ov_ldI rfl underlying2 rfl ((hρ 217 (lmem rfl)).trans rfl) hp451 hg453⟩) rfl rfl
                                (ffc (d := 219) (v := .int .i64 (IntKind.i64.wrap (n438 - x452))) (hd_v rfl fun ρ hρ => ⟨rfl, opv_sub rfl rfl rfl ((hρ 216 (lmem rfl)).trans rfl) ((hρ 218 (lmem rfl)).trans rfl)⟩) rfl rfl
                                (ffc (d := 220) (v := v454) (hd_v rfl fun ρ hρ => ⟨rfl, ov_cutV rfl rfl underlying62 sz26 ((hρ 211 (lmem rfl)).trans rfl) (bndN _ _ _) (bndS ((hρ 219 (lmem rfl)).trans rfl)) hq455⟩) rfl rfl
                                ffn)))))))))))))) ?_
                              obtain ⟨v460, aw461, hq462, H⟩ := H
                              refine lt_val (dt := some 223) (v := v460) rfl rfl (fun ρ hρ => ⟨rfl, ov_app rfl rfl rfl rfl underlying62 sz26 by26 underlying62 rfl z26 rfl (by decide) (by decide) ((hρ 220 (lmem rfl)).trans rfl) ((hρ 222 (lmem rfl)).trans rfl) hq462⟩) ?_
                              obtain ⟨hp463, H⟩ := H
                              obtain ⟨b465, i466, p464, hp467, hv468, H⟩ := H
                              refine lt_next (l := [0, 17, 18]) (hv := [(17, m_0), (18, p464)]) rfl rfl (pv_cons rfl (pv_cons rfl (pv_nil _)))
                                (ffc (d := 207) (v := m_0) (hd_v rfl fun ρ hρ => ⟨rfl, opv_move rfl rfl ((hρ 0 (lmem rfl)).trans h0)⟩) rfl rfl
                                (ffc (d := 224) (v := m_0) (hd_v rfl fun ρ hρ => ⟨rfl, ov_nck rfl rfl ((hρ 207 (lmem rfl)).trans rfl) hp463⟩) rfl rfl
                                (ffc (d := 225) (v := p464) (hd_v rfl fun ρ hρ => ⟨rfl, ov_fldA rfl rfl underlying77 rfl sz62 (by decide) ((hρ 224 (lmem rfl)).trans rfl) hp467 rfl hv468⟩) rfl rfl
                                ffn))) ?_
                              obtain ⟨b470, i471, aw469, hp472, hw473, ho474, ha475, H⟩ := H
                              refine lt_val (dt := none) (v := undef) rfl rfl (fun ρ hρ => ⟨rfl, ov_st rfl rfl rfl ((hρ 225 (lmem rfl)).trans rfl) ((hρ 223 (lmem rfl)).trans rfl) (cells_all ho474) sz62 hp472 hw473 ho474 ha475⟩) ?_
                              refine lt_next (l := []) (hv := []) rfl rfl (pv_nil _)
                                ffn ?_
                              refine lt_end ?_
                              refine ago_inBlock ?_
                              exact ago_nilR (r := ()) (ares_0 rfl ) rfl H
                            · replace H := cnd_f H hb413
                              refine ago_seqE E58_75 ?_
                              refine ago_regE E58_76 (l := [0, 1]) rfl ?_
                              refine lk (dt := some 227) R58_37_N rfl rfl rfl (opv_eqI rfl rfl rfl h42 rfl) ?_
                              refine lk (dt := some 226) R58_37_N rfl rfl rfl (opv_assign rfl rfl rfl) ?_
                              refine aops_nil ?_
                              refine ago_condE  E58_77 rfl rfl (fun hb476 => ?_) (fun hb476 => ?_)
                              · replace H := cnd_t H hb476
                                refine ago_regE E58_78 (l := [0, 1]) rfl ?_
                                refine lk (dt := some 228) R58_38_N rfl rfl rfl (opv_move rfl rfl h0) ?_
                                refine lk_call (dt := some 229) R58_38_N rfl rfl rfl (opc_of rfl rfl is37 (ma_cons rfl rfl)) H (fun _ _ h => ⟨rfl, h⟩) fun r477 aw478 H => ?_
                                refine aops_nil ?_
                                refine ago_inBlock ?_
                                exact ago_nilR (r := ()) (ares_0 rfl ) rfl H
                              · replace H := cnd_f H hb476
                                refine ago_seqE E58_79 ?_
                                refine ago_regE E58_80 (l := [0, 1]) rfl ?_
                                refine lk (dt := some 231) R58_39_N rfl rfl rfl (opv_eqI rfl rfl rfl h42 rfl) ?_
                                refine lk (dt := some 230) R58_39_N rfl rfl rfl (opv_assign rfl rfl rfl) ?_
                                refine aops_nil ?_
                                refine ago_condE  E58_81 rfl rfl (fun hb479 => ?_) (fun hb479 => ?_)
                                · replace H := cnd_t H hb479
                                  refine ago_regE E58_82 (l := [0, 1, 2, 3]) rfl ?_
                                  refine lk (dt := some 232) R58_40_N rfl rfl rfl (opv_move rfl rfl h0) ?_
                                  obtain ⟨b481, i482, p480, hp483, hv484, H⟩ := H
                                  refine lk (dt := some 233) R58_40_N rfl rfl rfl (ov_fldA rfl rfl underlying34 rfl sz2 (by decide) h3 hp483 rfl hv484) ?_
                                  obtain ⟨b485, i486, x488, hp487, hg489, H⟩ := H
                                  refine lk (dt := some 234) R58_40_N rfl rfl rfl (ov_ldI rfl underlying2 rfl rfl hp487 hg489) ?_
                                  refine lk_call (dt := some 235) R58_40_N rfl rfl rfl (opc_of rfl rfl is74 (ma_cons rfl (ma_cons rfl rfl))) H (fun _ _ h => ⟨rfl, h⟩) fun r490 aw491 H => ?_
                                  refine aops_nil ?_
                                  refine ago_inBlock ?_
                                  exact ago_nilR (r := ()) (ares_0 rfl ) rfl H
                                · replace H := cnd_f H hb479
                                  refine ago_seqE E58_83 ?_
                                  refine ago_regE E58_84 (l := [0, 1]) rfl ?_
                                  refine lk (dt := some 237) R58_41_N rfl rfl rfl (opv_eqI rfl rfl rfl h42 rfl) ?_
                                  refine lk (dt := some 236) R58_41_N rfl rfl rfl (opv_assign rfl rfl rfl) ?_
                                  refine aops_nil ?_
                                  refine ago_condE  E58_85 rfl rfl (fun hb492 => ?_) (fun hb492 => ?_)
                                  · replace H := cnd_t H hb492
                                    refine ago_regE E58_86 (l := [0, 1, 2, 3, 4, 5, 6]) rfl ?_
                                    refine lk (dt := some 238) R58_42_N rfl rfl rfl (opv_move rfl rfl h0) ?_
                                    refine lk (dt := some 239) R58_42_N rfl rfl rfl (opv_move rfl rfl h0) ?_
                                    refine lk_call (dt := some 240) R58_42_N rfl rfl rfl (opc_of rfl rfl is37 (ma_cons rfl rfl)) H (fun _ _ h => ⟨rfl, h⟩) fun r493 aw494 H => ?_
                                    refine lk_call (dt := some 241) R58_42_N rfl rfl rfl (opc_of rfl rfl is73 (ma_cons rfl rfl)) H (fun _ _ h => ⟨rfl, h⟩) fun r495 aw496 H => ?_
                                    refine lk (dt := some 242) R58_42_N rfl rfl rfl (opv_neg rfl rfl rfl) ?_
                                    refine lk_call (dt := some 243) R58_42_N rfl rfl rfl (opc_of rfl rfl is14 (ma_cons rfl rfl)) H (fun _ _ h => ⟨rfl, h⟩) fun r497 aw498 H => ?_
                                    refine lk_call (dt := some 244) R58_42_N rfl rfl rfl (opc_of rfl rfl is34 (ma_cons rfl (ma_cons rfl rfl))) H (fun _ _ h => ⟨rfl, h⟩) fun r499 aw500 H => ?_
                                    refine aops_nil ?_
                                    refine ago_inBlock ?_
                                    exact ago_nilR (r := ()) (ares_0 rfl ) rfl H
                                  · replace H := cnd_f H hb492
                                    refine ago_seqE E58_87 ?_
                                    refine ago_regE E58_88 (l := [0, 1]) rfl ?_
                                    refine lk (dt := some 246) R58_43_N rfl rfl rfl (opv_eqI rfl rfl rfl h42 rfl) ?_
                                    refine lk (dt := some 245) R58_43_N rfl rfl rfl (opv_assign rfl rfl rfl) ?_
                                    refine aops_nil ?_
                                    refine ago_condE  E58_89 rfl rfl (fun hb501 => ?_) (fun hb501 => ?_)
                                    · replace H := cnd_t H hb501
                                      refine ago_cut (fun ρ => ρ 0 = m_0 ∧ True) ⟨h0, trivial⟩ (fun ρ ⟨h0, _⟩ => ?_)
                                      refine ago_regE E58_90 (l := [0, 1]) rfl ?_
                                      refine lk (dt := some 247) R58_44_N rfl rfl rfl (opv_move rfl rfl h0) ?_
                                      refine lk_call (dt := some 248) R58_44_N rfl rfl rfl (opc_of rfl rfl is71 (ma_cons rfl (ma_cons rfl (ma_cons rfl (ma_cons rfl rfl))))) H (fun _ _ h => ⟨rfl, h⟩) fun r502 aw503 H => ?_
                                      refine aops_nil ?_
                                      refine ago_inBlock ?_
                                      exact ago_nilR (r := ()) (ares_0 rfl ) rfl H
                                    · replace H := cnd_f H hb501
                                      refine ago_seqE E58_91 ?_
                                      refine ago_cut (fun ρ => ρ 0 = m_0 ∧ ρ 3 = i_3 ∧ ρ 42 = .int .u8 t_42 ∧ True) ⟨h0, h3, h42, trivial⟩ (fun ρ ⟨h0, h3, h42, _⟩ => ?_)
                                      refine ago_regE E58_92 (l := [0, 1]) rfl ?_
                                      refine lk (dt := some 250) R58_45_N rfl rfl rfl (opv_eqI rfl rfl rfl h42 rfl) ?_
                                      refine lk (dt := some 249) R58_45_N rfl rfl rfl (opv_assign rfl rfl rfl) ?_
                                      refine aops_nil ?_
                                      refine ago_condE  E58_93 rfl rfl (fun hb504 => ?_) (fun hb504 => ?_)
                                      · replace H := cnd_t H hb504
                                        refine ago_regE E58_94 (l := [0, 1, 2, 3, 4, 5]) rfl ?_
                                        refine lk (dt := some 251) R58_46_N rfl rfl rfl (opv_move rfl rfl h0) ?_
                                        refine lk (dt := some 252) R58_46_N rfl rfl rfl (opv_move rfl rfl h0) ?_
                                        refine lk (dt := some 253) R58_46_N rfl rfl rfl (opv_move rfl rfl h0) ?_
                                        refine lk_call (dt := some 254) R58_46_N rfl rfl rfl (opc_of rfl rfl is37 (ma_cons rfl rfl)) H (fun _ _ h => ⟨rfl, h⟩) fun r505 aw506 H => ?_
                                        refine lk_call (dt := some 255) R58_46_N rfl rfl rfl (opc_of rfl rfl is70 (ma_cons rfl (ma_cons rfl (ma_cons rfl rfl)))) H (fun _ _ h => ⟨rfl, h⟩) fun r507 aw508 H => ?_
                                        refine lk_call (dt := some 256) R58_46_N rfl rfl rfl (opc_of rfl rfl is34 (ma_cons rfl (ma_cons rfl rfl))) H (fun _ _ h => ⟨rfl, h⟩) fun r509 aw510 H => ?_
                                        refine aops_nil ?_
                                        refine ago_inBlock ?_
                                        exact ago_nilR (r := ()) (ares_0 rfl ) rfl H
                                      · replace H := cnd_f H hb504
                                        refine ago_seqE E58_95 ?_
                                        refine ago_regE E58_96 (l := [0, 1]) rfl ?_
                                        refine lk (dt := some 258) R58_47_N rfl rfl rfl (opv_eqI rfl rfl rfl h42 rfl) ?_
                                        refine lk (dt := some 257) R58_47_N rfl rfl rfl (opv_assign rfl rfl rfl) ?_
                                        refine aops_nil ?_
                                        refine ago_condE  E58_97 rfl rfl (fun hb511 => ?_) (fun hb511 => ?_)
                                        · replace H := cnd_t H hb511
                                          obtain ⟨hp512, H⟩ := H
                                          obtain ⟨b514, i515, p513, hp516, hv517, H⟩ := H
                                          obtain ⟨b518, i519, x521, hp520, hg522, H⟩ := H
                                          obtain ⟨hp523, H⟩ := H
                                          obtain ⟨b525, i526, p524, hp527, hv528, H⟩ := H
                                          obtain ⟨b529, i530, x532, hp531, hg533, H⟩ := H
                                          obtain ⟨q535, l536, c537, n534, hv538, hn539, H⟩ := H
                                          obtain ⟨hp540, H⟩ := H
                                          obtain ⟨b542, i543, p541, hp544, hv545, H⟩ := H
                                          obtain ⟨b546, i547, x549, hp548, hg550, H⟩ := H
                                          obtain ⟨q552, l553, c554, n551, hv555, hn556, H⟩ := H
                                          obtain ⟨b558, i559, p557, hp560, hv561, H⟩ := H
                                          obtain ⟨b562, i563, x565, hp564, hg566, H⟩ := H
                                          refine ago_drawH (p := [0, 1, 2, 3, 4, 5, 6, 7, 8, 9, 10, 11, 12, 13, 14, 15, 16, 17]) (tl := [(18, [0, 1, 2, 3, 4], []), (19, [0], [20, 21]), (22, [], [])]) (hv := [(0, m_0), (1, m_0), (2, m_0), (3, p513), (4, x521), (5, m_0), (6, m_0), (7, p524), (8, x532), (9, Value.int .i64 n534), (10, m_0), (11, m_0), (12, p541), (13, x549), (14, Value.int .i64 n551), (15, p557), (16, Value.int .i64 x565), (17, Value.agg #[.int .i64 n534, .int .i64 n551, .int .i64 x565])]) E58_98 mixed R58_48_N R58_48_O rfl (pv_cons rfl (pv_cons rfl (pv_cons rfl (pv_cons rfl (pv_cons rfl (pv_cons rfl (pv_cons rfl (pv_cons rfl (pv_cons rfl (pv_cons rfl (pv_cons rfl (pv_cons rfl (pv_cons rfl (pv_cons rfl (pv_cons rfl (pv_cons rfl (pv_cons rfl (pv_cons rfl (pv_nil _)))))))))))))))))))
                                            (ffc (d := 259) (v := m_0) (hd_v rfl fun ρ hρ => ⟨rfl, opv_move rfl rfl ((hρ 0 (lmem rfl)).trans h0)⟩) rfl rfl
                                            (ffc (d := 260) (v := m_0) (hd_v rfl fun ρ hρ => ⟨rfl, opv_move rfl rfl ((hρ 0 (lmem rfl)).trans h0)⟩) rfl rfl
                                            (ffc (d := 261) (v := m_0) (hd_v rfl fun ρ hρ => ⟨rfl, ov_nck rfl rfl ((hρ 260 (lmem rfl)).trans rfl) hp512⟩) rfl rfl
                                            (ffc (d := 262) (v := p513) (hd_v rfl fun ρ hρ => ⟨rfl, ov_fldA rfl rfl underlying77 rfl sz71 (by decide) ((hρ 261 (lmem rfl)).trans rfl) hp516 rfl hv517⟩) rfl rfl
                                            (ffc (d := 263) (v := x521) (hd_v rfl fun ρ hρ => ⟨rfl, ov_ldV rfl underlying71 rfl rfl ((hρ 262 (lmem rfl)).trans rfl) hp520 hg522⟩) rfl rfl
                                            (ffc (d := 264) (v := m_0) (hd_v rfl fun ρ hρ => ⟨rfl, opv_move rfl rfl ((hρ 0 (lmem rfl)).trans h0)⟩) rfl rfl
                                            (ffc (d := 265) (v := m_0) (hd_v rfl fun ρ hρ => ⟨rfl, ov_nck rfl rfl ((hρ 264 (lmem rfl)).trans rfl) hp523⟩) rfl rfl
                                            (ffc (d := 266) (v := p524) (hd_v rfl fun ρ hρ => ⟨rfl, ov_fldA rfl rfl underlying77 rfl sz70 (by decide) ((hρ 265 (lmem rfl)).trans rfl) hp527 rfl hv528⟩) rfl rfl
                                            (ffc (d := 267) (v := x532) (hd_v rfl fun ρ hρ => ⟨rfl, ov_ldV rfl underlying70 rfl rfl ((hρ 266 (lmem rfl)).trans rfl) hp531 hg533⟩) rfl rfl
                                            (ffc (d := 268) (v := .int .i64 n534) (hd_v rfl fun ρ hρ => ⟨rfl, ov_len rfl rfl rfl underlying70 ((hρ 267 (lmem rfl)).trans rfl) hv538 hn539⟩) rfl rfl
                                            (ffc (d := 269) (v := m_0) (hd_v rfl fun ρ hρ => ⟨rfl, opv_move rfl rfl ((hρ 0 (lmem rfl)).trans h0)⟩) rfl rfl
                                            (ffc (d := 270) (v := m_0) (hd_v rfl fun ρ hρ => ⟨rfl, ov_nck rfl rfl ((hρ 269 (lmem rfl)).trans rfl) hp540⟩) rfl rfl
                                            (ffc (d := 271) (v := p541) (hd_v rfl fun ρ hρ => ⟨rfl, ov_fldA rfl rfl underlying77 rfl sz62 (by decide) ((hρ 270 (lmem rfl)).trans rfl) hp544 rfl hv545⟩) rfl rfl
                                            (ffc (d := 272) (v := x549) (hd_v rfl fun ρ hρ => ⟨rfl, ov_ldV rfl underlying62 rfl rfl ((hρ 271 (lmem rfl)).trans rfl) hp548 hg550⟩) rfl rfl
                                            (ffc (d := 273) (v := .int .i64 n551) (hd_v rfl fun ρ hρ => ⟨rfl, ov_len rfl rfl rfl underlying62 ((hρ 272 (lmem rfl)).trans rfl) hv555 hn556⟩) rfl rfl
                                            (ffc (d := 274) (v := p557) (hd_v rfl fun ρ hρ => ⟨rfl, ov_fldA rfl rfl underlying34 rfl sz2 (by decide) ((hρ 3 (lmem rfl)).trans h3) hp560 rfl hv561⟩) rfl rfl
                                            (ffc (d := 275) (v := .int .i64 x565) (hd_v rfl fun ρ hρ => ⟨rfl, ov_ldI rfl underlying2 rfl ((hρ 274 (lmem rfl)).trans rfl) hp564 hg566⟩) rfl rfl
                                            (ffc (d := 276) (v := .agg #[.int .i64 n534, .int .i64 n551, .int .i64 x565]) (hd_v rfl fun ρ hρ => ⟨rfl, ov_bld (r := [.int .i64 n534, .int .i64 n551, .int .i64 x565]) rfl rfl bo132 (mp_cons ((hρ 268 (lmem rfl)).trans rfl) (mp_cons ((hρ 273 (lmem rfl)).trans rfl) (mp_cons ((hρ 275 (lmem rfl)).trans rfl) rfl))) (fillP rfl rfl rfl rfl (fillP rfl rfl rfl rfl (fillP rfl rfl rfl rfl (fillN rfl))))⟩) rfl rfl
                                            ffn)))))))))))))))))) ?_
                                          obtain ⟨p567, aw568, hp569, ha570, H⟩ := H
                                          refine lt_val (dt := some 277) (v := p567) rfl rfl (fun ρ hρ => ⟨rfl, ov_bsA (r := [.int .i64 n534, .int .i64 n551, .int .i64 x565]) (vs := [.agg #[.int .i64 n534, .int .i64 n551, .int .i64 x565]]) rfl rfl underlying71 sz132 z132 rfl rfl rfl rfl rfl (mp_cons ((hρ 276 (lmem rfl)).trans rfl) rfl) (.cons (v := .agg #[.int .i64 n534, .int .i64 n551, .int .i64 x565]) (xs := [.int .i64 n534, .int .i64 n551, .int .i64 x565]) (r := []) rfl rfl .nil) hp569 ha570⟩) ?_
                                          obtain ⟨hg522, H⟩ := H
                                          replace hg522 := hg522 _ _ hp520
                                          refine lt_next (l := [0, 1, 2, 3, 4]) (hv := []) rfl rfl (pv_nil _)
                                            (ffc (d := 259) (v := m_0) (hd_v rfl fun ρ hρ => ⟨rfl, opv_move rfl rfl ((hρ 0 (lmem rfl)).trans h0)⟩) rfl rfl
                                            (ffc (d := 260) (v := m_0) (hd_v rfl fun ρ hρ => ⟨rfl, opv_move rfl rfl ((hρ 0 (lmem rfl)).trans h0)⟩) rfl rfl
                                            (ffc (d := 261) (v := m_0) (hd_v rfl fun ρ hρ => ⟨rfl, ov_nck rfl rfl ((hρ 260 (lmem rfl)).trans rfl) hp512⟩) rfl rfl
                                            (ffc (d := 262) (v := p513) (hd_v rfl fun ρ hρ => ⟨rfl, ov_fldA rfl rfl underlying77 rfl sz71 (by decide) ((hρ 261 (lmem rfl)).trans rfl) hp516 rfl hv517⟩) rfl rfl
                                            (ffc (d := 263) (v := x521) (hd_v rfl fun ρ hρ => ⟨rfl, ov_ldV rfl underlying71 rfl rfl ((hρ 262 (lmem rfl)).trans rfl) hp520 hg522⟩) rfl rfl
                                            ffn))))) ?_
                                          obtain ⟨v571, aw572, hq573, H⟩ := H
                                          refine lt_val (dt := some 278) (v := v571) rfl rfl (fun ρ hρ => ⟨rfl, ov_app rfl rfl rfl rfl underlying71 sz132 by132 underlying71 rfl z132 rfl (by decide) (by decide) ((hρ 263 (lmem rfl)).trans rfl) ((hρ 277 (lmem rfl)).trans rfl) hq573⟩) ?_
                                          obtain ⟨hp574, H⟩ := H
                                          obtain ⟨b576, i577, p575, hp578, hv579, H⟩ := H
                                          refine lt_next (l := [0, 20, 21]) (hv := [(20, m_0), (21, p575)]) rfl rfl (pv_cons rfl (pv_cons rfl (pv_nil _)))
                                            (ffc (d := 259) (v := m_0) (hd_v rfl fun ρ hρ => ⟨rfl, opv_move rfl rfl ((hρ 0 (lmem rfl)).trans h0)⟩) rfl rfl
                                            (ffc (d := 279) (v := m_0) (hd_v rfl fun ρ hρ => ⟨rfl, ov_nck rfl rfl ((hρ 259 (lmem rfl)).trans rfl) hp574⟩) rfl rfl
                                            (ffc (d := 280) (v := p575) (hd_v rfl fun ρ hρ => ⟨rfl, ov_fldA rfl rfl underlying77 rfl sz71 (by decide) ((hρ 279 (lmem rfl)).trans rfl) hp578 rfl hv579⟩) rfl rfl
                                            ffn))) ?_
                                          obtain ⟨b581, i582, aw580, hp583, hw584, ho585, ha586, H⟩ := H
                                          refine lt_val (dt := none) (v := undef) rfl rfl (fun ρ hρ => ⟨rfl, ov_st rfl rfl rfl ((hρ 280 (lmem rfl)).trans rfl) ((hρ 278 (lmem rfl)).trans rfl) (cells_all ho585) sz71 hp583 hw584 ho585 ha586⟩) ?_
                                          refine lt_next (l := []) (hv := []) rfl rfl (pv_nil _)
                                            ffn ?_
                                          refine lt_end ?_
                                          refine ago_inBlock ?_
                                          exact ago_nilR (r := ()) (ares_0 rfl ) rfl H
                                        · replace H := cnd_f H hb511
                                          refine ago_seqE E58_99 ?_
                                          refine ago_regE E58_100 (l := [0, 1]) rfl ?_
                                          refine lk (dt := some 282) R58_49_N rfl rfl rfl (opv_eqI rfl rfl rfl h42 rfl) ?_
                                          refine lk (dt := some 281) R58_49_N rfl rfl rfl (opv_assign rfl rfl rfl) ?_
                                          refine aops_nil ?_
                                          refine ago_condE  E58_101 rfl rfl (fun hb587 => ?_) (fun hb587 => ?_)
                                          · replace H := cnd_t H hb587
                                            obtain ⟨hp588, H⟩ := H
                                            obtain ⟨b590, i591, p589, hp592, hv593, H⟩ := H
                                            obtain ⟨b594, i595, x597, hp596, hg598, H⟩ := H
                                            obtain ⟨hp599, H⟩ := H
                                            obtain ⟨b601, i602, p600, hp603, hv604, H⟩ := H
                                            obtain ⟨b605, i606, x608, hp607, hg609, H⟩ := H
                                            obtain ⟨q611, l612, c613, n610, hv614, hn615, H⟩ := H
                                            obtain ⟨v616, hq617, H⟩ := H
                                            obtain ⟨hp618, H⟩ := H
                                            obtain ⟨b620, i621, p619, hp622, hv623, H⟩ := H
                                            refine ago_drawH (p := [0, 1, 2, 3, 4, 5, 6, 7, 8, 9, 10, 11, 12, 13]) (tl := [(14, [], [])]) (hv := [(0, m_0), (1, m_0), (2, m_0), (3, p589), (4, x597), (5, m_0), (6, m_0), (7, p600), (8, x608), (9, Value.int .i64 n610), (10, Value.int .i64 (IntKind.i64.wrap (n610 - 1))), (11, v616), (12, m_0), (13, p619)]) E58_102 mixed R58_50_N R58_50_O rfl (pv_cons rfl (pv_cons rfl (pv_cons rfl (pv_cons rfl (pv_cons rfl (pv_cons rfl (pv_cons rfl (pv_cons rfl (pv_cons rfl (pv_cons rfl (pv_cons rfl (pv_cons rfl (pv_cons rfl (pv_cons rfl (pv_nil _)))))))))))))))
                                              (ffc (d := 283) (v := m_0) (hd_v rfl fun ρ hρ => ⟨rfl, opv_move rfl rfl ((hρ 0 (lmem rfl)).trans h0)⟩) rfl rfl
                                              (ffc (d := 284) (v := m_0) (hd_v rfl fun ρ hρ => ⟨rfl, opv_move rfl rfl ((hρ 0 (lmem rfl)).trans h0)⟩) rfl rfl
                                              (ffc (d := 285) (v := m_0) (hd_v rfl fun ρ hρ => ⟨rfl, ov_nck rfl rfl ((hρ 284 (lmem rfl)).trans rfl) hp588⟩) rfl rfl
                                              (ffc (d := 286) (v := p589) (hd_v rfl fun ρ hρ => ⟨rfl, ov_fldA rfl rfl underlying77 rfl sz71 (by decide) ((hρ 285 (lmem rfl)).trans rfl) hp592 rfl hv593⟩) rfl rfl
                                              (ffc (d := 287) (v := x597) (hd_v rfl fun ρ hρ => ⟨rfl, ov_ldV rfl underlying71 rfl rfl ((hρ 286 (lmem rfl)).trans rfl) hp596 hg598⟩) rfl rfl
                                              (ffc (d := 288) (v := m_0) (hd_v rfl fun ρ hρ => ⟨rfl, opv_move rfl rfl ((hρ 0 (lmem rfl)).trans h0)⟩) rfl rfl
                                              (ffc (d := 289) (v := m_0) (hd_v rfl fun ρ hρ => ⟨rfl, ov_nck rfl rfl ((hρ 288 (lmem rfl)).trans rfl) hp599⟩) rfl rfl
                                              (ffc (d := 290) (v := p600) (hd_v rfl fun ρ hρ => ⟨rfl, ov_fldA rfl rfl underlying77 rfl sz71 (by decide) ((hρ 289 (lmem rfl)).trans rfl) hp603 rfl hv604⟩) rfl rfl
                                              (ffc (d := 291) (v := x608) (hd_v rfl fun ρ hρ => ⟨rfl, ov_ldV rfl underlying71 rfl rfl ((hρ 290 (lmem rfl)).trans rfl) hp607 hg609⟩) rfl rfl
                                              (ffc (d := 292) (v := .int .i64 n610) (hd_v rfl fun ρ hρ => ⟨rfl, ov_len rfl rfl rfl underlying71 ((hρ 291 (lmem rfl)).trans rfl) hv614 hn615⟩) rfl rfl
                                              (ffc (d := 293) (v := .int .i64 (IntKind.i64.wrap (n610 - 1))) (hd_v rfl fun ρ hρ => ⟨rfl, opv_sub rfl rfl rfl ((hρ 292 (lmem rfl)).trans rfl) rfl⟩) rfl rfl
                                              (ffc (d := 294) (v := v616) (hd_v rfl fun ρ hρ => ⟨rfl, ov_cutV rfl rfl underlying71 sz132 ((hρ 287 (lmem rfl)).trans rfl) (bndN _ _ _) (bndS ((hρ 293 (lmem rfl)).trans rfl)) hq617⟩) rfl rfl
                                              (ffc (d := 295) (v := m_0) (hd_v rfl fun ρ hρ => ⟨rfl, ov_nck rfl rfl ((hρ 283 (lmem rfl)).trans rfl) hp618⟩) rfl rfl
                                              (ffc (d := 296) (v := p619) (hd_v rfl fun ρ hρ => ⟨rfl, ov_fldA rfl rfl underlying77 rfl sz71 (by decide) ((hρ 295 (lmem rfl)).trans rfl) hp622 rfl hv623⟩) rfl rfl
                                              ffn)))))))))))))) ?_
                                            obtain ⟨b625, i626, aw624, hp627, hw628, ho629, ha630, H⟩ := H
                                            refine lt_val (dt := none) (v := undef) rfl rfl (fun ρ hρ => ⟨rfl, ov_st rfl rfl rfl ((hρ 296 (lmem rfl)).trans rfl) ((hρ 294 (lmem rfl)).trans rfl) (cells_all ho629) sz71 hp627 hw628 ho629 ha630⟩) ?_
                                            refine lt_next (l := []) (hv := []) rfl rfl (pv_nil _)
                                              ffn ?_
                                            refine lt_end ?_
                                            refine ago_inBlock ?_
                                            exact ago_nilR (r := ()) (ares_0 rfl ) rfl H
                                          · replace H := cnd_f H hb587
                                            refine ago_seqE E58_103 ?_
                                            refine ago_regE E58_104 (l := [0, 1]) rfl ?_
                                            refine lk (dt := some 298) R58_51_N rfl rfl rfl (opv_eqI rfl rfl rfl h42 rfl) ?_
                                            refine lk (dt := some 297) R58_51_N rfl rfl rfl (opv_assign rfl rfl rfl) ?_
                                            refine aops_nil ?_
                                            refine ago_condE  E58_105 rfl rfl (fun hb631 => ?_) (fun hb631 => ?_)
                                            · replace H := cnd_t H hb631
                                              refine ago_regE E58_106 (l := [0, 1, 2, 3, 4]) rfl ?_
                                              obtain ⟨b633, i634, p632, hp635, hv636, H⟩ := H
                                              refine lk (dt := some 299) R58_52_N rfl rfl rfl (ov_fldA rfl rfl underlying34 rfl sz9 (by decide) h3 hp635 rfl hv636) ?_
                                              obtain ⟨b637, i638, x640, hp639, hg641, H⟩ := H
                                              refine lk (dt := some 300) R58_52_N rfl rfl rfl (ov_ldS rfl underlying9 rfl rfl hp639 hg641) ?_
                                              refine lk (dt := some 301) R58_52_N rfl rfl rfl (ov_bld (r := [.string x640]) rfl rfl bo116 (mp_cons rfl rfl) (fillP rfl rfl rfl rfl (fillN rfl))) ?_
                                              refine lk (dt := some 302) R58_52_N rfl rfl rfl (opv_mkIface rfl rfl underlying116 rfl rfl) ?_
                                              exact aops_panic R58_52_N rfl rfl (opp_panic rfl rfl rfl) ⟨rfl, H⟩
                                            · replace H := cnd_f H hb631
                                              refine ago_regE E58_107 (l := [0, 1, 2]) rfl ?_
                                              refine lk (dt := some 43) R58_4_N rfl rfl rfl (opv_move rfl rfl h0) ?_
                                              obtain ⟨b642, i643, hp644, c645, hg649, c646, hg650, c647, hg651, c648, hg652, H⟩ := H
                                              refine lk (dt := some 44) R58_4_N rfl rfl rfl (ov_ldN rfl underlying34 rfl sz34 rfl h3 hp644 (getN_cons hg649 (getN_cons hg650 (getN_cons hg651 (getN_cons hg652 getN_nil))))) ?_
                                              refine lk_call (dt := some 45) R58_4_N rfl rfl rfl (opc_of rfl rfl is75 (ma_cons rfl (ma_cons rfl rfl))) H (fun _ _ h => ⟨rfl, h⟩) fun r653 aw654 H => ?_
                                              refine aops_nil ?_
                                              refine ago_inBlock ?_
                                              exact ago_nilR (r := ()) (ares_0 rfl ) rfl H
theorem S58_0_ok (Q : Unit → AW → Prop) (E : List PanicEntry → AW → Prop)  (ρ : Env) (m_0 : Value) (aw : AW) (h0 : ρ 0 = m_0) (H : S58_0 Q E  m_0 aw) :
    AGo prog 303 [.code C58_0] ρ [] aw (RR prog f58 303 sh58 Q E) := by
  unfold S58_0 at H
  refine ago_seqE E58_0 ?_
  obtain ⟨hp655, H⟩ := H
  obtain ⟨b657, i658, p656, hp659, hv660, H⟩ := H
  obtain ⟨b661, i662, x664, hp663, hg665, H⟩ := H
  obtain ⟨hp666, H⟩ := H
  obtain ⟨b668, i669, p667, hp670, hv671, H⟩ := H
  obtain ⟨b672, i673, x675, hp674, hg676, H⟩ := H
  obtain ⟨q678, l679, c680, n677, hv681, hn682, H⟩ := H
  obtain ⟨b684, i685, l686, c687, p683, hp688, h0689, hj690, hv691, H⟩ := H
  refine ago_drawH (p := [0, 1, 2, 3, 4, 5, 6, 7, 8, 9, 10, 11]) (tl := []) (hv := [(0, m_0), (1, m_0), (2, p656), (3, x664), (4, m_0), (5, m_0), (6, p667), (7, x675), (8, Value.int .i64 n677), (9, Value.int .i64 (IntKind.i64.wrap (n677 - 1))), (10, p683), (11, p683)]) E58_1 mixed R58_0_N R58_0_O rfl (pv_cons rfl (pv_cons rfl (pv_cons rfl (pv_cons rfl (pv_cons rfl (pv_cons rfl (pv_cons rfl (pv_cons rfl (pv_cons rfl (pv_cons rfl (pv_cons rfl (pv_cons rfl (pv_nil _)))))))))))))
    (ffc (d := 6) (v := m_0) (hd_v rfl fun ρ hρ => ⟨rfl, opv_move rfl rfl ((hρ 0 (lmem rfl)).trans h0)⟩) rfl rfl
    (ffc (d := 7) (v := m_0) (hd_v rfl fun ρ hρ => ⟨rfl, ov_nck rfl rfl ((hρ 6 (lmem rfl)).trans rfl) hp655⟩) rfl rfl
    (ffc (d := 8) (v := p656) (hd_v rfl fun ρ hρ => ⟨rfl, ov_fldA rfl rfl underlying77 rfl sz70 (by decide) ((hρ 7 (lmem rfl)).trans rfl) hp659 rfl hv660⟩) rfl rfl
    (ffc (d := 9) (v := x664) (hd_v rfl fun ρ hρ => ⟨rfl, ov_ldV rfl underlying70 rfl rfl ((hρ 8 (lmem rfl)).trans rfl) hp663 hg665⟩) rfl rfl
    (ffc (d := 10) (v := m_0) (hd_v rfl fun ρ hρ => ⟨rfl, opv_move rfl rfl ((hρ 0 (lmem rfl)).trans h0)⟩) rfl rfl
    (ffc (d := 11) (v := m_0) (hd_v rfl fun ρ hρ => ⟨rfl, ov_nck rfl rfl ((hρ 10 (lmem rfl)).trans rfl) hp666⟩) rfl rfl
    (ffc (d := 12) (v := p667) (hd_v rfl fun ρ hρ => ⟨rfl, ov_fldA rfl rfl underlying77 rfl sz70 (by decide) ((hρ 11 (lmem rfl)).trans rfl) hp670 rfl hv671⟩) rfl rfl
    (ffc (d := 13) (v := x675) (hd_v rfl fun ρ hρ => ⟨rfl, ov_ldV rfl underlying70 rfl rfl ((hρ 12 (lmem rfl)).trans rfl) hp674 hg676⟩) rfl rfl
    (ffc (d := 14) (v := .int .i64 n677) (hd_v rfl fun ρ hρ => ⟨rfl, ov_len rfl rfl rfl underlying70 ((hρ 13 (lmem rfl)).trans rfl) hv681 hn682⟩) rfl rfl
    (ffc (d := 15) (v := .int .i64 (IntKind.i64.wrap (n677 - 1))) (hd_v rfl fun ρ hρ => ⟨rfl, opv_sub rfl rfl rfl ((hρ 14 (lmem rfl)).trans rfl) rfl⟩) rfl rfl
    (ffc (d := 16) (v := p683) (hd_v rfl fun ρ hρ => ⟨rfl, ov_ixS rfl rfl rfl underlying70 sz85 ((hρ 9 (lmem rfl)).trans rfl) ((hρ 15 (lmem rfl)).trans rfl) hp688 h0689 hj690 hv691⟩) rfl rfl
    (ffc (d := 2) (v := p683) (hd_v rfl fun ρ hρ => ⟨rfl, opv_assign rfl rfl ((hρ 16 (lmem rfl)).trans rfl)⟩) rfl rfl
    ffn)))))))))))) ?_
  refine lt_end ?_
  refine ago_seqE E58_2 ?_
  refine ago_cut (fun ρ => ρ 0 = m_0 ∧ ρ 2 = p683 ∧ True) ⟨h0, rfl, trivial⟩ (fun ρ ⟨h0, h2, _⟩ => ?_)
  obtain ⟨hp692, H⟩ := H
  obtain ⟨b694, i695, p693, hp696, hv697, H⟩ := H
  obtain ⟨b698, i699, x701, hp700, hg702, H⟩ := H
  obtain ⟨hp703, H⟩ := H
  obtain ⟨b705, i706, p704, hp707, hv708, H⟩ := H
  obtain ⟨b709, i710, x712, hp711, hg713, H⟩ := H
  obtain ⟨b715, i716, l717, c718, p714, hp719, h0720, hj721, hv722, H⟩ := H
  obtain ⟨b724, i725, p723, hp726, hv727, H⟩ := H
  obtain ⟨b728, i729, x731, hp730, hg732, H⟩ := H
  obtain ⟨hp733, H⟩ := H
  obtain ⟨b735, i736, p734, hp737, hv738, H⟩ := H
  obtain ⟨b739, i740, x742, hp741, hg743, H⟩ := H
  obtain ⟨b745, i746, l747, c748, p744, hp749, h0750, hj751, hv752, H⟩ := H
  obtain ⟨b753, i754, hp755, c756, hg760, c757, hg761, c758, hg762, c759, hg763, H⟩ := H
  refine ago_drawH (p := [0, 1, 2, 3, 4, 5, 6, 7, 8, 9, 10, 11, 12, 13, 14, 15, 16]) (tl := [(17, [0, 1, 2, 3, 4, 5, 6, 7, 8, 9, 10, 11, 12, 13, 14, 15, 16], []), (18, [], [])]) (hv := [(0, m_0), (1, m_0), (2, p693), (3, x701), (4, p683), (5, p683), (6, p704), (7, Value.int .i64 x712), (8, p714), (9, p723), (10, x731), (11, p683), (12, p683), (13, p734), (14, Value.int .i64 x742), (15, p744), (16, Value.agg #[.int .u8 c756, .int .i64 c757, .int .i64 c758, .string c759])]) E58_3 mixed R58_1_N R58_1_O rfl (pv_cons rfl (pv_cons rfl (pv_cons rfl (pv_cons rfl (pv_cons rfl (pv_cons rfl (pv_cons rfl (pv_cons rfl (pv_cons rfl (pv_cons rfl (pv_cons rfl (pv_cons rfl (pv_cons rfl (pv_cons rfl (pv_cons rfl (pv_cons rfl (pv_cons rfl (pv_nil _))))))))))))))))))
    (ffc (d := 17) (v := m_0) (hd_v rfl fun ρ hρ => ⟨rfl, opv_move rfl rfl ((hρ 0 (lmem rfl)).trans h0)⟩) rfl rfl
    (ffc (d := 18) (v := m_0) (hd_v rfl fun ρ hρ => ⟨rfl, ov_nck rfl rfl ((hρ 17 (lmem rfl)).trans rfl) hp692⟩) rfl rfl
    (ffc (d := 19) (v := p693) (hd_v rfl fun ρ hρ => ⟨rfl, ov_fldA rfl rfl underlying77 rfl sz44 (by decide) ((hρ 18 (lmem rfl)).trans rfl) hp696 rfl hv697⟩) rfl rfl
    (ffc (d := 20) (v := x701) (hd_v rfl fun ρ hρ => ⟨rfl, ov_ldV rfl underlying44 rfl rfl ((hρ 19 (lmem rfl)).trans rfl) hp700 hg702⟩) rfl rfl
    (ffc (d := 21) (v := p683) (hd_v rfl fun ρ hρ => ⟨rfl, opv_move rfl rfl ((hρ 2 (lmem rfl)).trans h2)⟩) rfl rfl
    (ffc (d := 22) (v := p683) (hd_v rfl fun ρ hρ => ⟨rfl, ov_nck rfl rfl ((hρ 21 (lmem rfl)).trans rfl) hp703⟩) rfl rfl
    (ffc (d := 23) (v := p704) (hd_v rfl fun ρ hρ => ⟨rfl, ov_fldA rfl rfl underlying85 rfl sz3 (by decide) ((hρ 22 (lmem rfl)).trans rfl) hp707 rfl hv708⟩) rfl rfl
    (ffc (d := 24) (v := .int .i64 x712) (hd_v rfl fun ρ hρ => ⟨rfl, ov_ldI rfl underlying3 rfl ((hρ 23 (lmem rfl)).trans rfl) hp711 hg713⟩) rfl rfl
    (ffc (d := 25) (v := p714) (hd_v rfl fun ρ hρ => ⟨rfl, ov_ixS rfl rfl rfl underlying44 sz43 ((hρ 20 (lmem rfl)).trans rfl) ((hρ 24 (lmem rfl)).trans rfl) hp719 h0720 hj721 hv722⟩) rfl rfl
    (ffc (d := 26) (v := p723) (hd_v rfl fun ρ hρ => ⟨rfl, ov_fldA rfl rfl underlying43 rfl sz35 (by decide) ((hρ 25 (lmem rfl)).trans rfl) hp726 rfl hv727⟩) rfl rfl
    (ffc (d := 27) (v := x731) (hd_v rfl fun ρ hρ => ⟨rfl, ov_ldV rfl underlying35 rfl rfl ((hρ 26 (lmem rfl)).trans rfl) hp730 hg732⟩) rfl rfl
    (ffc (d := 28) (v := p683) (hd_v rfl fun ρ hρ => ⟨rfl, opv_move rfl rfl ((hρ 2 (lmem rfl)).trans h2)⟩) rfl rfl
    (ffc (d := 29) (v := p683) (hd_v rfl fun ρ hρ => ⟨rfl, ov_nck rfl rfl ((hρ 28 (lmem rfl)).trans rfl) hp733⟩) rfl rfl
    (ffc (d := 30) (v := p734) (hd_v rfl fun ρ hρ => ⟨rfl, ov_fldA rfl rfl underlying85 rfl sz3 (by decide) ((hρ 29 (lmem rfl)).trans rfl) hp737 rfl hv738⟩) rfl rfl
    (ffc (d := 31) (v := .int .i64 x742) (hd_v rfl fun ρ hρ => ⟨rfl, ov_ldI rfl underlying3 rfl ((hρ 30 (lmem rfl)).trans rfl) hp741 hg743⟩) rfl rfl
    (ffc (d := 32) (v := p744) (hd_v rfl fun ρ hρ => ⟨rfl, ov_ixS rfl rfl rfl underlying35 sz34 ((hρ 27 (lmem rfl)).trans rfl) ((hρ 31 (lmem rfl)).trans rfl) hp749 h0750 hj751 hv752⟩) rfl rfl
    (ffc (d := 33) (v := .agg #[.int .u8 c756, .int .i64 c757, .int .i64 c758, .string c759]) (hd_v rfl fun ρ hρ => ⟨rfl, ov_ldN rfl underlying34 rfl sz34 rfl ((hρ 32 (lmem rfl)).trans rfl) hp755 (getN_cons hg760 (getN_cons hg761 (getN_cons hg762 (getN_cons hg763 getN_nil))))⟩) rfl rfl
    ffn))))))))))))))))) ?_
  obtain ⟨p764, aw765, hp766, ha767, H⟩ := H
  refine lt_val (dt := some 3) (v := p764) rfl rfl (fun ρ hρ => ⟨rfl, ov_alloc rfl z34 rfl rfl hp766 ha767⟩) ?_
  obtain ⟨hg702, H⟩ := H
  replace hg702 := hg702 _ _ hp700
  obtain ⟨hg713, H⟩ := H
  replace hg713 := hg713 _ _ hp711
  obtain ⟨hg732, H⟩ := H
  replace hg732 := hg732 _ _ hp730
  obtain ⟨hg743, H⟩ := H
  replace hg743 := hg743 _ _ hp741
  obtain ⟨hg760, H⟩ := H
  obtain ⟨hg761, H⟩ := H
  obtain ⟨hg762, H⟩ := H
  obtain ⟨hg763, H⟩ := H
  refine lt_next (l := [0, 1, 2, 3, 4, 5, 6, 7, 8, 9, 10, 11, 12, 13, 14, 15, 16]) (hv := []) rfl rfl (pv_nil _)
    (ffc (d := 17) (v := m_0) (hd_v rfl fun ρ hρ => ⟨rfl, opv_move rfl rfl ((hρ 0 (lmem rfl)).trans h0)⟩) rfl rfl
    (ffc (d := 18) (v := m_0) (hd_v rfl fun ρ hρ => ⟨rfl, ov_nck rfl rfl ((hρ 17 (lmem rfl)).trans rfl) hp692⟩) rfl rfl
    (ffc (d := 19) (v := p693) (hd_v rfl fun ρ hρ => ⟨rfl, ov_fldA rfl rfl underlying77 rfl sz44 (by decide) ((hρ 18 (lmem rfl)).trans rfl) hp696 rfl hv697⟩) rfl rfl
    (ffc (d := 20) (v := x701) (hd_v rfl fun ρ hρ => ⟨rfl, ov_ldV rfl underlying44 rfl rfl ((hρ 19 (lmem rfl)).trans rfl) hp700 hg702⟩) rfl rfl
    (ffc (d := 21) (v := p683) (hd_v rfl fun ρ hρ => ⟨rfl, opv_move rfl rfl ((hρ 2 (lmem rfl)).trans h2)⟩) rfl rfl
    (ffc (d := 22) (v := p683) (hd_v rfl fun ρ hρ => ⟨rfl, ov_nck rfl rfl ((hρ 21 (lmem rfl)).trans rfl) hp703⟩) rfl rfl
    (ffc (d := 23) (v := p704) (hd_v rfl fun ρ hρ => ⟨rfl, ov_fldA rfl rfl underlying85 rfl sz3 (by decide) ((hρ 22 (lmem rfl)).trans rfl) hp707 rfl hv708⟩) rfl rfl
    (ffc (d := 24) (v := .int .i64 x712) (hd_v rfl fun ρ hρ => ⟨rfl, ov_ldI rfl underlying3 rfl ((hρ 23 (lmem rfl)).trans rfl) hp711 hg713⟩) rfl rfl
    (ffc (d := 25) (v := p714) (hd_v rfl fun ρ hρ => ⟨rfl, ov_ixS rfl rfl rfl underlying44 sz43 ((hρ 20 (lmem rfl)).trans rfl) ((hρ 24 (lmem rfl)).trans rfl) hp719 h0720 hj721 hv722⟩) rfl rfl
    (ffc (d := 26) (v := p723) (hd_v rfl fun ρ hρ => ⟨rfl, ov_fldA rfl rfl underlying43 rfl sz35 (by decide) ((hρ 25 (lmem rfl)).trans rfl) hp726 rfl hv727⟩) rfl rfl
    (ffc (d := 27) (v := x731) (hd_v rfl fun ρ hρ => ⟨rfl, ov_ldV rfl underlying35 rfl rfl ((hρ 26 (lmem rfl)).trans rfl) hp730 hg732⟩) rfl rfl
    (ffc (d := 28) (v := p683) (hd_v rfl fun ρ hρ => ⟨rfl, opv_move rfl rfl ((hρ 2 (lmem rfl)).trans h2)⟩) rfl rfl
    (ffc (d := 29) (v := p683) (hd_v rfl fun ρ hρ => ⟨rfl, ov_nck rfl rfl ((hρ 28 (lmem rfl)).trans rfl) hp733⟩) rfl rfl
    (ffc (d := 30) (v := p734) (hd_v rfl fun ρ hρ => ⟨rfl, ov_fldA rfl rfl underlying85 rfl sz3 (by decide) ((hρ 29 (lmem rfl)).trans rfl) hp737 rfl hv738⟩) rfl rfl
    (ffc (d := 31) (v := .int .i64 x742) (hd_v rfl fun ρ hρ => ⟨rfl, ov_ldI rfl underlying3 rfl ((hρ 30 (lmem rfl)).trans rfl) hp741 hg743⟩) rfl rfl
    (ffc (d := 32) (v := p744) (hd_v rfl fun ρ hρ => ⟨rfl, ov_ixS rfl rfl rfl underlying35 sz34 ((hρ 27 (lmem rfl)).trans rfl) ((hρ 31 (lmem rfl)).trans rfl) hp749 h0750 hj751 hv752⟩) rfl rfl
    (ffc (d := 33) (v := .agg #[.int .u8 c756, .int .i64 c757, .int .i64 c758, .string c759]) (hd_v rfl fun ρ hρ => ⟨rfl, ov_ldN rfl underlying34 rfl sz34 rfl ((hρ 32 (lmem rfl)).trans rfl) hp755 (getN_cons hg760 (getN_cons hg761 (getN_cons hg762 (getN_cons hg763 getN_nil))))⟩) rfl rfl
    ffn))))))))))))))))) ?_
  obtain ⟨b769, i770, aw768, hp771, hw772, ho773, ha774, H⟩ := H
  refine lt_val (dt := none) (v := undef) rfl rfl (fun ρ hρ => ⟨rfl, ov_st rfl rfl rfl ((hρ 3 (lmem rfl)).trans rfl) ((hρ 33 (lmem rfl)).trans rfl) rfl sz34 hp771 hw772 ho773 ha774⟩) ?_
  refine lt_next (l := []) (hv := []) rfl rfl (pv_nil _)
    ffn ?_
  refine lt_end ?_
  refine ago_seqE E58_4 ?_
  refine ago_cut (fun ρ => ρ 0 = m_0 ∧ ρ 2 = p683 ∧ ρ 3 = p764 ∧ True) ⟨h0, h2, rfl, trivial⟩ (fun ρ ⟨h0, h2, h3, _⟩ => ?_)
  refine ago_regE E58_5 (l := [0, 1, 2, 3, 4, 5, 6, 7]) rfl ?_
  refine lk (dt := some 34) R58_2_N rfl rfl rfl (opv_move rfl rfl h2) ?_
  obtain ⟨hp775, H⟩ := H
  refine lk (dt := some 35) R58_2_N rfl rfl rfl (ov_nck rfl rfl rfl hp775) ?_
  obtain ⟨b777, i778, p776, hp779, hv780, H⟩ := H
  refine lk (dt := some 36) R58_2_N rfl rfl rfl (ov_fldA rfl rfl underlying85 rfl sz3 (by decide) rfl hp779 rfl hv780) ?_
  obtain ⟨b781, i782, x784, hp783, hg785, H⟩ := H
  refine lk (dt := some 37) R58_2_N rfl rfl rfl (ov_ldI rfl underlying3 rfl rfl hp783 hg785) ?_
  refine lk (dt := some 38) R58_2_N rfl rfl rfl (opv_add rfl rfl rfl rfl rfl) ?_
  obtain ⟨hp786, H⟩ := H
  refine lk (dt := some 39) R58_2_N rfl rfl rfl (ov_nck rfl rfl rfl hp786) ?_
  obtain ⟨b788, i789, p787, hp790, hv791, H⟩ := H
  refine lk (dt := some 40) R58_2_N rfl rfl rfl (ov_fldA rfl rfl underlying85 rfl sz3 (by decide) rfl hp790 rfl hv791) ?_
  obtain ⟨b793, i794, aw792, hp795, hw796, ho797, ha798, H⟩ := H
  refine lk (dt := none) R58_2_N rfl rfl rfl (ov_st rfl rfl rfl rfl rfl rfl sz3 hp795 hw796 ho797 ha798) ?_
  refine aops_nil ?_
  refine ago_seqE E58_6 ?_
  refine ago_regE E58_7 (l := [0, 1]) rfl ?_
  obtain ⟨b800, i801, p799, hp802, hv803, H⟩ := H
  refine lk (dt := some 41) R58_3_N rfl rfl rfl (ov_fldA rfl rfl underlying34 rfl sz5 (by decide) h3 hp802 rfl hv803) ?_
  obtain ⟨b804, i805, x807, hp806, hg808, H⟩ := H
  refine lk (dt := some 42) R58_3_N rfl rfl rfl (ov_ldI rfl underlying5 rfl rfl hp806 hg808) ?_
  refine aops_nil ?_
  exact S58_1_ok Q E  _ m_0 p683 p764 x807 aw792 h0 h2 h3 rfl H
theorem F58_ok {Q : Unit → AW → Prop} {E : List PanicEntry → AW → Prop} (m_0 : Value) (aw : AW) (H : S58_0 Q E m_0 aw) : CallP prog 58 [m_0] aw sh58 Q E :=
  callP_of func58 C58_is rfl (Nat.le_of_ble_eq_true rfl) (S58_0_ok Q E _ m_0 aw rfl H)
def C67_0 : Code := bodyOf f67
theorem C67_is : f67.body = some C67_0 := by kernel_rfl
def C67_1 : Code := cl C67_0
def R67_0 : Array Oper := regOps C67_1
def C67_2 : Code := cr C67_0
def C67_3 : Code := cl C67_2
def C67_4 : Code := cl C67_3
def R67_1 : Array Oper := regOps C67_4
def C67_5 : Code := cr C67_3
def C67_6 : Code := cl C67_5
def R67_2 : Array Oper := regOps C67_6
def C67_7 : Code := cr C67_5
def C67_8 : Code := cr C67_2
def C67_9 : Code := cl C67_8
def R67_3 : Array Oper := regOps C67_9
def C67_10 : Code := cr C67_8
theorem R67_0_N : dstsOk 38 R67_0 = true := by decide +kernel
theorem E67_1 : C67_1 = .region 0 R67_0 false := rfl
theorem R67_1_N : dstsOk 38 R67_1 = true := by decide +kernel
theorem R67_1_O : linOk R67_1 [0, 1, 2, 3, 4, 6, 7, 8, 9] [(5, [0, 6, 7, 8, 9], []), (10, [0], [11, 12])] = true := by decide +kernel
theorem E67_4 : C67_4 = .region 1 R67_1 true := rfl
theorem R67_2_N : dstsOk 38 R67_2 = true := by decide +kernel
theorem R67_2_O : linOk R67_2 [0, 1, 2, 3, 4] [(5, [0, 1, 2, 3], []), (6, [], [])] = true := by decide +kernel
theorem E67_6 : C67_6 = .region 2 R67_2 true := rfl
theorem E67_7 : C67_7 = .skip := rfl
theorem E67_5 : C67_5 = .cond (.tmp 17) C67_6 C67_7 := rfl
theorem E67_3 : C67_3 = .seq C67_4 C67_5 := rfl
theorem R67_3_N : dstsOk 38 R67_3 = true := by decide +kernel
theorem R67_3_O : linOk R67_3 [0, 1, 2, 3, 4, 6, 7, 8, 9] [(5, [0, 6, 7, 8, 9], []), (10, [0], [11, 12, 13])] = true := by decide +kernel
theorem E67_9 : C67_9 = .region 3 R67_3 true := rfl
theorem E67_10 : C67_10 = .ret := rfl
theorem E67_8 : C67_8 = .seq C67_9 C67_10 := rfl
theorem E67_2 : C67_2 = .seq C67_3 C67_8 := rfl
theorem E67_0 : C67_0 = .seq C67_1 C67_2 := rfl
def S67_1 (Q : Bool → AW → Prop) (E : List PanicEntry → AW → Prop)  (m_0 : Value) (n_1 : Int) (aw : AW) : Prop :=
  nck m_0 (fldA m_0 0 fun p2 =>
  ldV aw p2 fun x10 =>
  nck m_0 (fldA m_0 0 fun p13 =>
  ldV aw p13 fun x21 =>
  CallP prog 79 [x10] aw sh79 (fun r23 aw24 =>
  again1 aw24 p13 (x21) ∧ CallP prog 23 [x21] aw24 sh23 (fun r25 aw26 =>
  Q (decide (n_1 ≤ (IntKind.i64.wrap (r23 - r25)))) aw26) E) E))
def S67_0 (Q : Bool → AW → Prop) (E : List PanicEntry → AW → Prop)  (m_0 : Value) (n_1 : Int) (aw : AW) : Prop :=
  nck m_0 (fldA m_0 0 fun p28 =>
  ldV aw p28 fun x36 =>
  nck m_0 (fldA m_0 0 fun p39 =>
  ldV aw p39 fun x47 =>
  CallP prog 79 [x36] aw sh79 (fun r49 aw50 =>
  again1 aw50 p39 (x47) ∧ CallP prog 23 [x47] aw50 sh23 (fun r51 aw52 =>
  cnd (decide ((IntKind.i64.wrap (r49 - r51)) < n_1)) (nck m_0 (fldA m_0 0 fun p55 =>
  ldV aw52 p55 fun x63 =>
  CallP prog 31 [m_0] aw52 sh31 (fun r65 aw66 =>
  again1 aw66 p55 (x63) ∧ CallP prog 48 [x63, r65] aw66 sh48 (fun r67 aw68 =>
  S67_1 Q E  m_0 n_1 aw68) E) E)) (S67_1 Q E  m_0 n_1 aw52)) E) E))
theorem S67_1_ok (Q : Bool → AW → Prop) (E : List PanicEntry → AW → Prop)  (ρ : Env) (m_0 : Value) (n_1 : Int) (aw : AW) (h0 : ρ 0 = m_0) (h1 : ρ 1 = .int .i64 n_1) (H : S67_1 Q E  m_0 n_1 aw) :
    AGo prog 38 [.code C67_8] ρ [] aw (RR prog f67 38 sh67 Q E) := by
  unfold S67_1 at H
  refine ago_seqE E67_8 ?_
  obtain ⟨hp1, H⟩ := H
  obtain ⟨b3, i4, p2, hp5, hv6, H⟩ := H
  obtain ⟨b7, i8, x10, hp9, hg11, H⟩ := H
  obtain ⟨hp12, H⟩ := H
  obtain ⟨b14, i15, p13, hp16, hv17, H⟩ := H
  obtain ⟨b18, i19, x21, hp20, hg22, H⟩ := H
  refine ago_drawH (p := [0, 1, 2, 3, 4, 6, 7, 8, 9]) (tl := [(5, [0, 6, 7, 8, 9], []), (10, [0], [11, 12, 13])]) (hv := [(0, Value.int .i64 n_1), (1, m_0), (2, m_0), (3, p2), (4, x10), (6, m_0), (7, m_0), (8, p13), (9, x21)]) E67_9 mixed R67_3_N R67_3_O rfl (pv_cons rfl (pv_cons rfl (pv_cons rfl (pv_cons rfl (pv_cons rfl (pv_cons rfl (pv_cons rfl (pv_cons rfl (pv_cons rfl (pv_nil _))))))))))
    (ffc (d := 25) (v := .int .i64 n_1) (hd_v rfl fun ρ hρ => ⟨rfl, opv_move rfl rfl ((hρ 1 (lmem rfl)).trans h1)⟩) rfl rfl
    (ffc (d := 26) (v := m_0) (hd_v rfl fun ρ hρ => ⟨rfl, opv_move rfl rfl ((hρ 0 (lmem rfl)).trans h0)⟩) rfl rfl
    (ffc (d := 27) (v := m_0) (hd_v rfl fun ρ hρ => ⟨rfl, ov_nck rfl rfl ((hρ 26 (lmem rfl)).trans rfl) hp1⟩) rfl rfl
    (ffc (d := 28) (v := p2) (hd_v rfl fun ρ hρ => ⟨rfl, ov_fldA rfl rfl underlying77 rfl sz50 (by decide) ((hρ 27 (lmem rfl)).trans rfl) hp5 rfl hv6⟩) rfl rfl
    (ffc (d := 29) (v := x10) (hd_v rfl fun ρ hρ => ⟨rfl, ov_ldV rfl underlying50 rfl rfl ((hρ 28 (lmem rfl)).trans rfl) hp9 hg11⟩) rfl rfl
    (ffc (d := 31) (v := m_0) (hd_v rfl fun ρ hρ => ⟨rfl, opv_move rfl rfl ((hρ 0 (lmem rfl)).trans h0)⟩) rfl rfl
    (ffc (d := 32) (v := m_0) (hd_v rfl fun ρ hρ => ⟨rfl, ov_nck rfl rfl ((hρ 31 (lmem rfl)).trans rfl) hp12⟩) rfl rfl
    (ffc (d := 33) (v := p13) (hd_v rfl fun ρ hρ => ⟨rfl, ov_fldA rfl rfl underlying77 rfl sz50 (by decide) ((hρ 32 (lmem rfl)).trans rfl) hp16 rfl hv17⟩) rfl rfl
    (ffc (d := 34) (v := x21) (hd_v rfl fun ρ hρ => ⟨rfl, ov_ldV rfl underlying50 rfl rfl ((hρ 33 (lmem rfl)).trans rfl) hp20 hg22⟩) rfl rfl
    ffn))))))))) ?_
  refine lt_call (dt := some 30) rfl rfl (fun ρ hρ => ⟨rfl, opc_of rfl rfl is79 (ma_cons ((hρ 29 (lmem rfl)).trans rfl) rfl)⟩) H (fun _ _ h _ => ⟨rfl, h⟩) fun r23 aw24 H => ?_
  obtain ⟨hg22, H⟩ := H
  replace hg22 := hg22 _ _ hp20
  refine lt_next (l := [0, 6, 7, 8, 9]) (hv := []) rfl rfl (pv_nil _)
    (ffc (d := 25) (v := .int .i64 n_1) (hd_v rfl fun ρ hρ => ⟨rfl, opv_move rfl rfl ((hρ 1 (lmem rfl)).trans h1)⟩) rfl rfl
    (ffc (d := 31) (v := m_0) (hd_v rfl fun ρ hρ => ⟨rfl, opv_move rfl rfl ((hρ 0 (lmem rfl)).trans h0)⟩) rfl rfl
    (ffc (d := 32) (v := m_0) (hd_v rfl fun ρ hρ => ⟨rfl, ov_nck rfl rfl ((hρ 31 (lmem rfl)).trans rfl) hp12⟩) rfl rfl
    (ffc (d := 33) (v := p13) (hd_v rfl fun ρ hρ => ⟨rfl, ov_fldA rfl rfl underlying77 rfl sz50 (by decide) ((hρ 32 (lmem rfl)).trans rfl) hp16 rfl hv17⟩) rfl rfl
    (ffc (d := 34) (v := x21) (hd_v rfl fun ρ hρ => ⟨rfl, ov_ldV rfl underlying50 rfl rfl ((hρ 33 (lmem rfl)).trans rfl) hp20 hg22⟩) rfl rfl
    ffn))))) ?_
  refine lt_call (dt := some 35) rfl rfl (fun ρ hρ => ⟨rfl, opc_of rfl rfl is23 (ma_cons ((hρ 34 (lmem rfl)).trans rfl) rfl)⟩) H (fun _ _ h _ => ⟨rfl, h⟩) fun r25 aw26 H => ?_
  refine lt_next (l := [0, 11, 12, 13]) (hv := [(11, Value.int .i64 (IntKind.i64.wrap (r23 - r25))), (12, Value.bool (decide (n_1 ≤ (IntKind.i64.wrap (r23 - r25))))), (13, Value.bool (decide (n_1 ≤ (IntKind.i64.wrap (r23 - r25)))))]) rfl rfl (pv_cons rfl (pv_cons rfl (pv_cons rfl (pv_nil _))))
    (ffc (d := 25) (v := .int .i64 n_1) (hd_v rfl fun ρ hρ => ⟨rfl, opv_move rfl rfl ((hρ 1 (lmem rfl)).trans h1)⟩) rfl rfl
    (ffc (d := 36) (v := .int .i64 (IntKind.i64.wrap (r23 - r25))) (hd_v rfl fun ρ hρ => ⟨rfl, opv_sub rfl rfl rfl ((hρ 30 (lmem rfl)).trans rfl) ((hρ 35 (lmem rfl)).trans rfl)⟩) rfl rfl
    (ffc (d := 37) (v := .bool (decide (n_1 ≤ (IntKind.i64.wrap (r23 - r25))))) (hd_v rfl fun ρ hρ => ⟨rfl, opv_le rfl rfl rfl ((hρ 25 (lmem rfl)).trans rfl) ((hρ 36 (lmem rfl)).trans rfl)⟩) rfl rfl
    (ffc (d := 4) (v := .bool (decide (n_1 ≤ (IntKind.i64.wrap (r23 - r25))))) (hd_v rfl fun ρ hρ => ⟨rfl, opv_assign rfl rfl ((hρ 37 (lmem rfl)).trans rfl)⟩) rfl rfl
    ffn)))) ?_
  refine lt_end ?_
  exact ago_retE E67_10 (r := (decide (n_1 ≤ (IntKind.i64.wrap (r23 - r25))))) (ares_1 rfl (oneT rfl)) rfl H
theorem S67_0_ok (Q : Bool → AW → Prop) (E : List PanicEntry → AW → Prop)  (ρ : Env) (m_0 : Value) (n_1 : Int) (aw : AW) (h0 : ρ 0 = m_0) (h1 : ρ 1 = .int .i64 n_1) (H : S67_0 Q E  m_0 n_1 aw) :
    AGo prog 38 [.code C67_0] ρ [] aw (RR prog f67 38 sh67 Q E) := by
  unfold S67_0 at H
  refine ago_seqE E67_0 ?_
  refine ago_regE E67_1 (l := [0]) rfl ?_
  refine lk (dt := some 4) R67_0_N rfl rfl rfl (opv_assign rfl rfl rfl) ?_
  refine aops_nil ?_
  refine ago_seqE E67_2 ?_
  refine ago_seqE E67_3 ?_
  obtain ⟨hp27, H⟩ := H
  obtain ⟨b29, i30, p28, hp31, hv32, H⟩ := H
  obtain ⟨b33, i34, x36, hp35, hg37, H⟩ := H
  obtain ⟨hp38, H⟩ := H
  obtain ⟨b40, i41, p39, hp42, hv43, H⟩ := H
  obtain ⟨b44, i45, x47, hp46, hg48, H⟩ := H
  refine ago_drawH (p := [0, 1, 2, 3, 4, 6, 7, 8, 9]) (tl := [(5, [0, 6, 7, 8, 9], []), (10, [0], [11, 12])]) (hv := [(0, Value.int .i64 n_1), (1, m_0), (2, m_0), (3, p28), (4, x36), (6, m_0), (7, m_0), (8, p39), (9, x47)]) E67_4 mixed R67_1_N R67_1_O rfl (pv_cons rfl (pv_cons rfl (pv_cons rfl (pv_cons rfl (pv_cons rfl (pv_cons rfl (pv_cons rfl (pv_cons rfl (pv_cons rfl (pv_nil _))))))))))
    (ffc (d := 5) (v := .int .i64 n_1) (hd_v rfl fun ρ hρ => ⟨rfl, opv_move rfl rfl ((hρ 1 (lmem rfl)).trans h1)⟩) rfl rfl
    (ffc (d := 6) (v := m_0) (hd_v rfl fun ρ hρ => ⟨rfl, opv_move rfl rfl ((hρ 0 (lmem rfl)).trans h0)⟩) rfl rfl
    (ffc (d := 7) (v := m_0) (hd_v rfl fun ρ hρ => ⟨rfl, ov_nck rfl rfl ((hρ 6 (lmem rfl)).trans rfl) hp27⟩) rfl rfl
    (ffc (d := 8) (v := p28) (hd_v rfl fun ρ hρ => ⟨rfl, ov_fldA rfl rfl underlying77 rfl sz50 (by decide) ((hρ 7 (lmem rfl)).trans rfl) hp31 rfl hv32⟩) rfl rfl
    (ffc (d := 9) (v := x36) (hd_v rfl fun ρ hρ => ⟨rfl, ov_ldV rfl underlying50 rfl rfl ((hρ 8 (lmem rfl)).trans rfl) hp35 hg37⟩) rfl rfl
    (ffc (d := 11) (v := m_0) (hd_v rfl fun ρ hρ => ⟨rfl, opv_move rfl rfl ((hρ 0 (lmem rfl)).trans h0)⟩) rfl rfl
    (ffc (d := 12) (v := m_0) (hd_v rfl fun ρ hρ => ⟨rfl, ov_nck rfl rfl ((hρ 11 (lmem rfl)).trans rfl) hp38⟩) rfl rfl
    (ffc (d := 13) (v := p39) (hd_v rfl fun ρ hρ => ⟨rfl, ov_fldA rfl rfl underlying77 rfl sz50 (by decide) ((hρ 12 (lmem rfl)).trans rfl) hp42 rfl hv43⟩) rfl rfl
    (ffc (d := 14) (v := x47) (hd_v rfl fun ρ hρ => ⟨rfl, ov_ldV rfl underlying50 rfl rfl ((hρ 13 (lmem rfl)).trans rfl) hp46 hg48⟩) rfl rfl
    ffn))))))))) ?_
  refine lt_call (dt := some 10) rfl rfl (fun ρ hρ => ⟨rfl, opc_of rfl rfl is79 (ma_cons ((hρ 9 (lmem rfl)).trans rfl) rfl)⟩) H (fun _ _ h _ => ⟨rfl, h⟩) fun r49 aw50 H => ?_
  obtain ⟨hg48, H⟩ := H
  replace hg48 := hg48 _ _ hp46
  refine lt_next (l := [0, 6, 7, 8, 9]) (hv := []) rfl rfl (pv_nil _)
    (ffc (d := 5) (v := .int .i64 n_1) (hd_v rfl fun ρ hρ => ⟨rfl, opv_move rfl rfl ((hρ 1 (lmem rfl)).trans h1)⟩) rfl rfl
    (ffc (d := 11) (v := m_0) (hd_v rfl fun ρ hρ => ⟨rfl, opv_move rfl rfl ((hρ 0 (lmem rfl)).trans h0)⟩) rfl rfl
    (ffc (d := 12) (v := m_0) (hd_v rfl fun ρ hρ => ⟨rfl, ov_nck rfl rfl ((hρ 11 (lmem rfl)).trans rfl) hp38⟩) rfl rfl
    (ffc (d := 13) (v := p39) (hd_v rfl fun ρ hρ => ⟨rfl, ov_fldA rfl rfl underlying77 rfl sz50 (by decide) ((hρ 12 (lmem rfl)).trans rfl) hp42 rfl hv43⟩) rfl rfl
    (ffc (d := 14) (v := x47) (hd_v rfl fun ρ hρ => ⟨rfl, ov_ldV rfl underlying50 rfl rfl ((hρ 13 (lmem rfl)).trans rfl) hp46 hg48⟩) rfl rfl
    ffn))))) ?_
  refine lt_call (dt := some 15) rfl rfl (fun ρ hρ => ⟨rfl, opc_of rfl rfl is23 (ma_cons ((hρ 14 (lmem rfl)).trans rfl) rfl)⟩) H (fun _ _ h _ => ⟨rfl, h⟩) fun r51 aw52 H => ?_
  refine lt_next (l := [0, 11, 12]) (hv := [(11, Value.int .i64 (IntKind.i64.wrap (r49 - r51))), (12, Value.bool (decide ((IntKind.i64.wrap (r49 - r51)) < n_1)))]) rfl rfl (pv_cons rfl (pv_cons rfl (pv_nil _)))
    (ffc (d := 5) (v := .int .i64 n_1) (hd_v rfl fun ρ hρ => ⟨rfl, opv_move rfl rfl ((hρ 1 (lmem rfl)).trans h1)⟩) rfl rfl
    (ffc (d := 16) (v := .int .i64 (IntKind.i64.wrap (r49 - r51))) (hd_v rfl fun ρ hρ => ⟨rfl, opv_sub rfl rfl rfl ((hρ 10 (lmem rfl)).trans rfl) ((hρ 15 (lmem rfl)).trans rfl)⟩) rfl rfl
    (ffc (d := 17) (v := .bool (decide ((IntKind.i64.wrap (r49 - r51)) < n_1))) (hd_v rfl fun ρ hρ => ⟨rfl, opv_gt rfl rfl rfl ((hρ 5 (lmem rfl)).trans rfl) ((hρ 16 (lmem rfl)).trans rfl)⟩) rfl rfl
    ffn))) ?_
  refine lt_end ?_
  refine ago_condE  E67_5 rfl rfl (fun hb53 => ?_) (fun hb53 => ?_)
  · replace H := cnd_t H hb53
    refine ago_cut (fun ρ => ρ 0 = m_0 ∧ ρ 1 = .int .i64 n_1 ∧ True) ⟨h0, h1, trivial⟩ (fun ρ ⟨h0, h1, _⟩ => ?_)
    obtain ⟨hp54, H⟩ := H
    obtain ⟨b56, i57, p55, hp58, hv59, H⟩ := H
    obtain ⟨b60, i61, x63, hp62, hg64, H⟩ := H
    refine ago_drawH (p := [0, 1, 2, 3, 4]) (tl := [(5, [0, 1, 2, 3], []), (6, [], [])]) (hv := [(0, m_0), (1, m_0), (2, p55), (3, x63), (4, m_0)]) E67_6 mixed R67_2_N R67_2_O rfl (pv_cons rfl (pv_cons rfl (pv_cons rfl (pv_cons rfl (pv_cons rfl (pv_nil _))))))
      (ffc (d := 18) (v := m_0) (hd_v rfl fun ρ hρ => ⟨rfl, opv_move rfl rfl ((hρ 0 (lmem rfl)).trans h0)⟩) rfl rfl
      (ffc (d := 19) (v := m_0) (hd_v rfl fun ρ hρ => ⟨rfl, ov_nck rfl rfl ((hρ 18 (lmem rfl)).trans rfl) hp54⟩) rfl rfl
      (ffc (d := 20) (v := p55) (hd_v rfl fun ρ hρ => ⟨rfl, ov_fldA rfl rfl underlying77 rfl sz50 (by decide) ((hρ 19 (lmem rfl)).trans rfl) hp58 rfl hv59⟩) rfl rfl
      (ffc (d := 21) (v := x63) (hd_v rfl fun ρ hρ => ⟨rfl, ov_ldV rfl underlying50 rfl rfl ((hρ 20 (lmem rfl)).trans rfl) hp62 hg64⟩) rfl rfl
      (ffc (d := 22) (v := m_0) (hd_v rfl fun ρ hρ => ⟨rfl, opv_move rfl rfl ((hρ 0 (lmem rfl)).trans h0)⟩) rfl rfl
      ffn))))) ?_
    refine lt_call (dt := some 23) rfl rfl (fun ρ hρ => ⟨rfl, opc_of rfl rfl is31 (ma_cons ((hρ 22 (lmem rfl)).trans rfl) rfl)⟩) H (fun _ _ h _ => ⟨rfl, h⟩) fun r65 aw66 H => ?_
    obtain ⟨hg64, H⟩ := H
    replace hg64 := hg64 _ _ hp62
    refine lt_next (l := [0, 1, 2, 3]) (hv := []) rfl rfl (pv_nil _)
      (ffc (d := 18) (v := m_0) (hd_v rfl fun ρ hρ => ⟨rfl, opv_move rfl rfl ((hρ 0 (lmem rfl)).trans h0)⟩) rfl rfl
      (ffc (d := 19) (v := m_0) (hd_v rfl fun ρ hρ => ⟨rfl, ov_nck rfl rfl ((hρ 18 (lmem rfl)).trans rfl) hp54⟩) rfl rfl
      (ffc (d := 20) (v := p55) (hd_v rfl fun ρ hρ => ⟨rfl, ov_fldA rfl rfl underlying77 rfl sz50 (by decide) ((hρ 19 (lmem rfl)).trans rfl) hp58 rfl hv59⟩) rfl rfl
      (ffc (d := 21) (v := x63) (hd_v rfl fun ρ hρ => ⟨rfl, ov_ldV rfl underlying50 rfl rfl ((hρ 20 (lmem rfl)).trans rfl) hp62 hg64⟩) rfl rfl
      ffn)))) ?_
    refine lt_call (dt := some 24) rfl rfl (fun ρ hρ => ⟨rfl, opc_of rfl rfl is48 (ma_cons ((hρ 21 (lmem rfl)).trans rfl) (ma_cons ((hρ 23 (lmem rfl)).trans rfl) rfl))⟩) H (fun _ _ h _ => ⟨rfl, h⟩) fun r67 aw68 H => ?_
    refine lt_next (l := []) (hv := []) rfl rfl (pv_nil _)
      ffn ?_
    refine lt_end ?_
    exact S67_1_ok Q E  _ m_0 n_1 aw68 h0 h1 H
  · replace H := cnd_f H hb53
    refine ago_skipE E67_7 ?_
    exact S67_1_ok Q E  _ m_0 n_1 aw52 h0 h1 H
theorem F67_ok {Q : Bool → AW → Prop} {E : List PanicEntry → AW → Prop} (m_0 : Value) (n_1 : Int) (aw : AW) (H : S67_0 Q E m_0 n_1 aw) : CallP prog 67 [m_0, .int .i64 n_1] aw sh67 Q E :=
  callP_of func67 C67_is rfl (Nat.le_of_ble_eq_true rfl) (S67_0_ok Q E _ m_0 n_1 aw rfl rfl H)
def C70_0 : Code := bodyOf f70
theorem C70_is : f70.body = some C70_0 := by kernel_rfl
def C70_1 : Code := cl C70_0
def R70_0 : Array Oper := regOps C70_1
def C70_2 : Code := cr C70_0
def C70_3 : Code := cl C70_2
def R70_1 : Array Oper := regOps C70_3
def C70_4 : Code := cr C70_2
def C70_5 : Code := cl C70_4
def C70_6 : Code := cl C70_5
def R70_2 : Array Oper := regOps C70_6
def C70_7 : Code := cr C70_5
def C70_8 : Code := cl C70_7
def R70_3 : Array Oper := regOps C70_8
def C70_9 : Code := cr C70_7
def C70_10 : Code := cr C70_4
def C70_11 : Code := cl C70_10
def R70_4 : Array Oper := regOps C70_11
def C70_12 : Code := cr C70_10
theorem R70_0_N : dstsOk 24 R70_0 = true := by decide +kernel
theorem E70_1 : C70_1 = .region 0 R70_0 false := rfl
theorem R70_1_N : dstsOk 24 R70_1 = true := by decide +kernel
theorem E70_3 : C70_3 = .region 1 R70_1 false := rfl
theorem R70_2_N : dstsOk 24 R70_2 = true := by decide +kernel
theorem E70_6 : C70_6 = .region 2 R70_2 false := rfl
theorem R70_3_N : dstsOk 24 R70_3 = true := by decide +kernel
theorem E70_8 : C70_8 = .region 3 R70_3 false := rfl
theorem E70_9 : C70_9 = .skip := rfl
theorem E70_7 : C70_7 = .cond (.tmp 20) C70_8 C70_9 := rfl
theorem E70_5 : C70_5 = .seq C70_6 C70_7 := rfl
theorem R70_4_N : dstsOk 24 R70_4 = true := by decide +kernel
theorem E70_11 : C70_11 = .region 4 R70_4 false := rfl
theorem E70_12 : C70_12 = .ret := rfl
theorem E70_10 : C70_10 = .seq C70_11 C70_12 := rfl
theorem E70_4 : C70_4 = .seq C70_5 C70_10 := rfl
theorem E70_2 : C70_2 = .seq C70_3 C70_4 := rfl
theorem E70_0 : C70_0 = .seq C70_1 C70_2 := rfl
def S70_0 (Q : Int → AW → Prop) (E : List PanicEntry → AW → Prop)  (m_0 : Value) (w_1 : Int) (i_2 : Int) (aw : AW) : Prop :=
  nck m_0 (fldA m_0 0 fun p2 =>
  ldV aw p2 fun x10 =>
  CallP prog 80 [x10, .int .u64 w_1, .int .i64 i_2] aw sh80 (fun r12 aw13 =>
  cnd (!decide (r12.2 = 0)) (E [⟨(.iface 114 (.agg #[.int .i64 3])), false, false⟩] aw13) (Q r12.1 aw13)) E)
theorem S70_0_ok (Q : Int → AW → Prop) (E : List PanicEntry → AW → Prop)  (ρ : Env) (m_0 : Value) (w_1 : Int) (i_2 : Int) (aw : AW) (h0 : ρ 0 = m_0) (h1 : ρ 1 = .int .u64 w_1) (h2 : ρ 2 = .int .i64 i_2) (H : S70_0 Q E  m_0 w_1 i_2 aw) :
    AGo prog 24 [.code C70_0] ρ [] aw (RR prog f70 24 sh70 Q E) := by
  unfold S70_0 at H
  refine ago_seqE E70_0 ?_
  refine ago_regE E70_1 (l := [0]) rfl ?_
  refine lk (dt := some 6) R70_0_N rfl rfl rfl (opv_assign rfl rfl rfl) ?_
  refine aops_nil ?_
  refine ago_seqE E70_2 ?_
  refine ago_regE E70_3 (l := [0, 1, 2, 3, 4, 5, 6, 7, 8, 9, 10, 11]) rfl ?_
  refine lk (dt := some 10) R70_1_N rfl rfl rfl (opv_move rfl rfl h0) ?_
  obtain ⟨hp1, H⟩ := H
  refine lk (dt := some 11) R70_1_N rfl rfl rfl (ov_nck rfl rfl rfl hp1) ?_
  obtain ⟨b3, i4, p2, hp5, hv6, H⟩ := H
  refine lk (dt := some 12) R70_1_N rfl rfl rfl (ov_fldA rfl rfl underlying77 rfl sz50 (by decide) rfl hp5 rfl hv6) ?_
  obtain ⟨b7, i8, x10, hp9, hg11, H⟩ := H
  refine lk (dt := some 13) R70_1_N rfl rfl rfl (ov_ldV rfl underlying50 rfl rfl rfl hp9 hg11) ?_
  refine lk (dt := some 14) R70_1_N rfl rfl rfl (opv_move rfl rfl h1) ?_
  refine lk (dt := some 15) R70_1_N rfl rfl rfl (opv_move rfl rfl h2) ?_
  refine lk_call (dt := some 16) R70_1_N rfl rfl rfl (opc_of rfl rfl is80 (ma_cons rfl (ma_cons rfl (ma_cons rfl rfl)))) H (fun _ _ h => ⟨rfl, h⟩) fun r12 aw13 H => ?_
  refine lk (dt := some 9) R70_1_N rfl rfl rfl (opv_move rfl rfl rfl) ?_
  refine lk (dt := some 17) R70_1_N rfl rfl rfl (opv_extract rfl rfl rfl rfl) ?_
  refine lk (dt := some 18) R70_1_N rfl rfl rfl (opv_extract rfl rfl rfl rfl) ?_
  refine lk (dt := some 7) R70_1_N rfl rfl rfl (opv_assign rfl rfl rfl) ?_
  refine lk (dt := some 8) R70_1_N rfl rfl rfl (opv_assign rfl rfl rfl) ?_
  refine aops_nil ?_
  refine ago_seqE E70_4 ?_
  refine ago_seqE E70_5 ?_
  refine ago_cut (fun ρ => ρ 7 = .int .u64 r12.1 ∧ ρ 8 = .int .i64 r12.2 ∧ True) ⟨rfl, rfl, trivial⟩ (fun ρ ⟨h7, h8, _⟩ => ?_)
  refine ago_regE E70_6 (l := [0, 1]) rfl ?_
  refine lk (dt := some 19) R70_2_N rfl rfl rfl (opv_move rfl rfl h8) ?_
  refine lk (dt := some 20) R70_2_N rfl rfl rfl (opv_neI rfl rfl rfl rfl rfl) ?_
  refine aops_nil ?_
  refine ago_condE  E70_7 rfl rfl (fun hb14 => ?_) (fun hb14 => ?_)
  · replace H := cnd_t H hb14
    refine ago_regE E70_8 (l := [0, 1, 2]) rfl ?_
    refine lk (dt := some 21) R70_3_N rfl rfl rfl (ov_bld (r := [.int .i64 3]) rfl rfl bo114 (mp_cons rfl rfl) (fillP rfl rfl rfl rfl (fillN rfl))) ?_
    refine lk (dt := some 22) R70_3_N rfl rfl rfl (opv_mkIface rfl rfl underlying114 rfl rfl) ?_
    exact aops_panic R70_3_N rfl rfl (opp_panic rfl rfl rfl) ⟨rfl, H⟩
  · replace H := cnd_f H hb14
    refine ago_skipE E70_9 ?_
    refine ago_seqE E70_10 ?_
    refine ago_regE E70_11 (l := [0, 1]) rfl ?_
    refine lk (dt := some 23) R70_4_N rfl rfl rfl (opv_move rfl rfl h7) ?_
    refine lk (dt := some 6) R70_4_N rfl rfl rfl (opv_assign rfl rfl rfl) ?_
    refine aops_nil ?_
    exact ago_retE E70_12 (r := r12.1) (ares_1 rfl (oneT rfl)) rfl H
theorem F70_ok {Q : Int → AW → Prop} {E : List PanicEntry → AW → Prop} (m_0 : Value) (w_1 : Int) (i_2 : Int) (aw : AW) (H : S70_0 Q E m_0 w_1 i_2 aw) : CallP prog 70 [m_0, .int .u64 w_1, .int .i64 i_2] aw sh70 Q E :=
  callP_of func70 C70_is rfl (Nat.le_of_ble_eq_true rfl) (S70_0_ok Q E _ m_0 w_1 i_2 aw rfl rfl rfl H)
def C71_0 : Code := bodyOf f71
theorem C71_is : f71.body = some C71_0 := by kernel_rfl
def C71_1 : Code := cl C71_0
def C71_2 : Code := cl C71_1
def R71_0 : Array Oper := regOps C71_2
def C71_3 : Code := cr C71_1
def C71_4 : Code := cl C71_3
def R71_1 : Array Oper := regOps C71_4
def C71_5 : Code := cr C71_3
def C71_6 : Code := cr C71_0
def C71_7 : Code := cl C71_6
def R71_2 : Array Oper := regOps C71_7
def C71_8 : Code := cr C71_6
def C71_9 : Code := cl C71_8
def R71_3 : Array Oper := regOps C71_9
def C71_10 : Code := cr C71_8
def C71_11 : Code := cl C71_10
def R71_4 : Array Oper := regOps C71_11
def C71_12 : Code := cr C71_10
def R71_5 : Array Oper := regOps C71_12
theorem R71_0_N : dstsOk 58 R71_0 = true := by decide +kernel
theorem E71_2 : C71_2 = .region 0 R71_0 false := rfl
theorem R71_1_N : dstsOk 58 R71_1 = true := by decide +kernel
theorem E71_4 : C71_4 = .region 1 R71_1 false := rfl
theorem E71_5 : C71_5 = .skip := rfl
theorem E71_3 : C71_3 = .cond (.tmp 19) C71_4 C71_5 := rfl
theorem E71_1 : C71_1 = .seq C71_2 C71_3 := rfl
theorem R71_2_N : dstsOk 58 R71_2 = true := by decide +kernel
theorem E71_7 : C71_7 = .region 2 R71_2 false := rfl
theorem R71_3_N : dstsOk 58 R71_3 = true := by decide +kernel
theorem R71_3_O : linOk R71_3 [0, 1, 2, 3, 4, 5, 6, 7, 8, 9, 10, 11] [(12, [0, 1, 2, 3, 4], []), (13, [], [14, 15, 16, 17, 18])] = true := by decide +kernel
theorem E71_9 : C71_9 = .region 3 R71_3 true := rfl
theorem R71_4_N : dstsOk 58 R71_4 = true := by decide +kernel
theorem E71_11 : C71_11 = .region 4 R71_4 false := rfl
theorem R71_5_N : dstsOk 58 R71_5 = true := by decide +kernel
theorem E71_12 : C71_12 = .region 5 R71_5 false := rfl
theorem E71_10 : C71_10 = .seq C71_11 C71_12 := rfl
theorem E71_8 : C71_8 = .seq C71_9 C71_10 := rfl
theorem E71_6 : C71_6 = .seq C71_7 C71_8 := rfl
theorem E71_0 : C71_0 = .seq C71_1 C71_6 := rfl
def S71_0 (Q : Unit → AW → Prop) (E : List PanicEntry → AW → Prop)  (m_0 : Value) (kind_1 : Int) (n_2 : Int) (first_3 : Value) (aw : AW) : Prop :=
  slen first_3 fun n1 =>
  CallP prog 53 [.int .u8 kind_1, .int .i64 (IntKind.i64.wrap (n1 + n_2))] aw sh53 (fun r7 aw8 =>
  CallP prog 67 [m_0, .int .i64 r7] aw8 sh67 (fun r9 aw10 =>
  cnd (!r9) (E [⟨(.iface 114 (.agg #[.int .i64 11])), false, false⟩] aw10) (nck m_0 (fldA m_0 3 fun p13 =>
  ldV aw10 p13 fun x21 =>
  slen x21 fun n23 =>
  nck m_0 (fldA m_0 0 fun p30 =>
  ldV aw10 p30 fun x38 =>
  nck m_0 (fldA m_0 3 fun p41 =>
  ldV aw10 p41 fun x49 =>
  cutV aw10 1 x49 (IntKind.i64.wrap (n23 - n_2)) (lenV x49) fun v51 =>
  app aw10 26 1 8 first_3 v51 fun v53 aw54 =>
  again1 aw54 p30 (x38) ∧ CallP prog 30 [x38, .int .u8 kind_1, v53, (.slice none 0 0)] aw54 sh30 (fun r56 aw57 =>
  nck m_0 (fldA m_0 3 fun p59 =>
  ldV aw57 p59 fun x67 =>
  cutV aw57 1 x67 0 (IntKind.i64.wrap (n23 - n_2)) fun v69 =>
  nck m_0 (fldA m_0 3 fun p72 =>
  st aw57 p72 [v69] fun aw77 =>
  CallP prog 34 [m_0, .int .u64 r56.1] aw77 sh34 (fun r84 aw85 =>
  Q () aw85) E))) E))))) E) E
theorem S71_0_ok (Q : Unit → AW → Prop) (E : List PanicEntry → AW → Prop)  (ρ : Env) (m_0 : Value) (kind_1 : Int) (n_2 : Int) (first_3 : Value) (aw : AW) (h0 : ρ 0 = m_0) (h1 : ρ 1 = .int .u8 kind_1) (h2 : ρ 2 = .int .i64 n_2) (h3 : ρ 3 = first_3) (H : S71_0 Q E  m_0 kind_1 n_2 first_3 aw) :
    AGo prog 58 [.code C71_0] ρ [] aw (RR prog f71 58 sh71 Q E) := by
  unfold S71_0 at H
  refine ago_seqE E71_0 ?_
  refine ago_seqE E71_1 ?_
  refine ago_regE E71_2 (l := [0, 1, 2, 3, 4, 5, 6, 7, 8]) rfl ?_
  refine lk (dt := some 11) R71_0_N rfl rfl rfl (opv_move rfl rfl h0) ?_
  refine lk (dt := some 12) R71_0_N rfl rfl rfl (opv_move rfl rfl h1) ?_
  refine lk (dt := some 13) R71_0_N rfl rfl rfl (opv_move rfl rfl h3) ?_
  obtain ⟨q2, l3, c4, n1, hv5, hn6, H⟩ := H
  refine lk (dt := some 14) R71_0_N rfl rfl rfl (ov_len rfl rfl rfl underlying62 rfl hv5 hn6) ?_
  refine lk (dt := some 15) R71_0_N rfl rfl rfl (opv_move rfl rfl h2) ?_
  refine lk (dt := some 16) R71_0_N rfl rfl rfl (opv_add rfl rfl rfl rfl rfl) ?_
  refine lk_call (dt := some 17) R71_0_N rfl rfl rfl (opc_of rfl rfl is53 (ma_cons rfl (ma_cons rfl rfl))) H (fun _ _ h => ⟨rfl, h⟩) fun r7 aw8 H => ?_
  refine lk_call (dt := some 18) R71_0_N rfl rfl rfl (opc_of rfl rfl is67 (ma_cons rfl (ma_cons rfl rfl))) H (fun _ _ h => ⟨rfl, h⟩) fun r9 aw10 H => ?_
  refine lk (dt := some 19) R71_0_N rfl rfl rfl (opv_not rfl rfl rfl) ?_
  refine aops_nil ?_
  refine ago_condE  E71_3 rfl rfl (fun hb11 => ?_) (fun hb11 => ?_)
  · replace H := cnd_t H hb11
    refine ago_regE E71_4 (l := [0, 1, 2]) rfl ?_
    refine lk (dt := some 20) R71_1_N rfl rfl rfl (ov_bld (r := [.int .i64 11]) rfl rfl bo114 (mp_cons rfl rfl) (fillP rfl rfl rfl rfl (fillN rfl))) ?_
    refine lk (dt := some 21) R71_1_N rfl rfl rfl (opv_mkIface rfl rfl underlying114 rfl rfl) ?_
    exact aops_panic R71_1_N rfl rfl (opp_panic rfl rfl rfl) ⟨rfl, H⟩
  · replace H := cnd_f H hb11
    refine ago_skipE E71_5 ?_
    refine ago_seqE E71_6 ?_
    refine ago_regE E71_7 (l := [0, 1, 2, 3, 4, 5, 6, 7]) rfl ?_
    refine lk (dt := some 22) R71_2_N rfl rfl rfl (opv_move rfl rfl h0) ?_
    obtain ⟨hp12, H⟩ := H
    refine lk (dt := some 23) R71_2_N rfl rfl rfl (ov_nck rfl rfl rfl hp12) ?_
    obtain ⟨b14, i15, p13, hp16, hv17, H⟩ := H
    refine lk (dt := some 24) R71_2_N rfl rfl rfl (ov_fldA rfl rfl underlying77 rfl sz62 (by decide) rfl hp16 rfl hv17) ?_
    obtain ⟨b18, i19, x21, hp20, hg22, H⟩ := H
    refine lk (dt := some 25) R71_2_N rfl rfl rfl (ov_ldV rfl underlying62 rfl rfl rfl hp20 hg22) ?_
    obtain ⟨q24, l25, c26, n23, hv27, hn28, H⟩ := H
    refine lk (dt := some 26) R71_2_N rfl rfl rfl (ov_len rfl rfl rfl underlying62 rfl hv27 hn28) ?_
    refine lk (dt := some 27) R71_2_N rfl rfl rfl (opv_move rfl rfl h2) ?_
    refine lk (dt := some 28) R71_2_N rfl rfl rfl (opv_sub rfl rfl rfl rfl rfl) ?_
    refine lk (dt := some 8) R71_2_N rfl rfl rfl (opv_assign rfl rfl rfl) ?_
    refine aops_nil ?_
    refine ago_seqE E71_8 ?_
    refine ago_cut (fun ρ => ρ 0 = m_0 ∧ ρ 1 = .int .u8 kind_1 ∧ ρ 3 = first_3 ∧ ρ 8 = .int .i64 (IntKind.i64.wrap (n23 - n_2)) ∧ True) ⟨h0, h1, h3, rfl, trivial⟩ (fun ρ ⟨h0, h1, h3, h8, _⟩ => ?_)
    obtain ⟨hp29, H⟩ := H
    obtain ⟨b31, i32, p30, hp33, hv34, H⟩ := H
    obtain ⟨b35, i36, x38, hp37, hg39, H⟩ := H
    obtain ⟨hp40, H⟩ := H
    obtain ⟨b42, i43, p41, hp44, hv45, H⟩ := H
    obtain ⟨b46, i47, x49, hp48, hg50, H⟩ := H
    obtain ⟨v51, hq52, H⟩ := H
    refine ago_drawH (p := [0, 1, 2, 3, 4, 5, 6, 7, 8, 9, 10, 11]) (tl := [(12, [0, 1, 2, 3, 4], []), (13, [], [14, 15, 16, 17, 18])]) (hv := [(0, m_0), (1, m_0), (2, p30), (3, x38), (4, Value.int .u8 kind_1), (5, first_3), (6, m_0), (7, m_0), (8, p41), (9, x49), (10, Value.int .i64 (IntKind.i64.wrap (n23 - n_2))), (11, v51)]) E71_9 mixed R71_3_N R71_3_O rfl (pv_cons rfl (pv_cons rfl (pv_cons rfl (pv_cons rfl (pv_cons rfl (pv_cons rfl (pv_cons rfl (pv_cons rfl (pv_cons rfl (pv_cons rfl (pv_cons rfl (pv_cons rfl (pv_nil _)))))))))))))
      (ffc (d := 30) (v := m_0) (hd_v rfl fun ρ hρ => ⟨rfl, opv_move rfl rfl ((hρ 0 (lmem rfl)).trans h0)⟩) rfl rfl
      (ffc (d := 31) (v := m_0) (hd_v rfl fun ρ hρ => ⟨rfl, ov_nck rfl rfl ((hρ 30 (lmem rfl)).trans rfl) hp29⟩) rfl rfl
      (ffc (d := 32) (v := p30) (hd_v rfl fun ρ hρ => ⟨rfl, ov_fldA rfl rfl underlying77 rfl sz50 (by decide) ((hρ 31 (lmem rfl)).trans rfl) hp33 rfl hv34⟩) rfl rfl
      (ffc (d := 33) (v := x38) (hd_v rfl fun ρ hρ => ⟨rfl, ov_ldV rfl underlying50 rfl rfl ((hρ 32 (lmem rfl)).trans rfl) hp37 hg39⟩) rfl rfl
      (ffc (d := 34) (v := .int .u8 kind_1) (hd_v rfl fun ρ hρ => ⟨rfl, opv_move rfl rfl ((hρ 1 (lmem rfl)).trans h1)⟩) rfl rfl
      (ffc (d := 35) (v := first_3) (hd_v rfl fun ρ hρ => ⟨rfl, opv_move rfl rfl ((hρ 3 (lmem rfl)).trans h3)⟩) rfl rfl
      (ffc (d := 36) (v := m_0) (hd_v rfl fun ρ hρ => ⟨rfl, opv_move rfl rfl ((hρ 0 (lmem rfl)).trans h0)⟩) rfl rfl
      (ffc (d := 37) (v := m_0) (hd_v rfl fun ρ hρ => ⟨rfl, ov_nck rfl rfl ((hρ 36 (lmem rfl)).trans rfl) hp40⟩) rfl rfl
      (ffc (d := 38) (v := p41) (hd_v rfl fun ρ hρ => ⟨rfl, ov_fldA rfl rfl underlying77 rfl sz62 (by decide) ((hρ 37 (lmem rfl)).trans rfl) hp44 rfl hv45⟩) rfl rfl
      (ffc (d := 39) (v := x49) (hd_v rfl fun ρ hρ => ⟨rfl, ov_ldV rfl underlying62 rfl rfl ((hρ 38 (lmem rfl)).trans rfl) hp48 hg50⟩) rfl rfl
      (ffc (d := 40) (v := .int .i64 (IntKind.i64.wrap (n23 - n_2))) (hd_v rfl fun ρ hρ => ⟨rfl, opv_move rfl rfl ((hρ 8 (lmem rfl)).trans h8)⟩) rfl rfl
      (ffc (d := 41) (v := v51) (hd_v rfl fun ρ hρ => ⟨rfl, ov_cutV rfl rfl underlying62 sz26 ((hρ 39 (lmem rfl)).trans rfl) (bndS ((hρ 40 (lmem rfl)).trans rfl)) (bndN _ _ _) hq52⟩) rfl rfl
      ffn)))))))))))) ?_
    obtain ⟨v53, aw54, hq55, H⟩ := H
    refine lt_val (dt := some 42) (v := v53) rfl rfl (fun ρ hρ => ⟨rfl, ov_app rfl rfl rfl rfl underlying62 sz26 by26 underlying62 rfl z26 rfl (by decide) (by decide) ((hρ 35 (lmem rfl)).trans rfl) ((hρ 41 (lmem rfl)).trans rfl) hq55⟩) ?_
    obtain ⟨hg39, H⟩ := H
    replace hg39 := hg39 _ _ hp37
    refine lt_next (l := [0, 1, 2, 3, 4]) (hv := []) rfl rfl (pv_nil _)
      (ffc (d := 30) (v := m_0) (hd_v rfl fun ρ hρ => ⟨rfl, opv_move rfl rfl ((hρ 0 (lmem rfl)).trans h0)⟩) rfl rfl
      (ffc (d := 31) (v := m_0) (hd_v rfl fun ρ hρ => ⟨rfl, ov_nck rfl rfl ((hρ 30 (lmem rfl)).trans rfl) hp29⟩) rfl rfl
      (ffc (d := 32) (v := p30) (hd_v rfl fun ρ hρ => ⟨rfl, ov_fldA rfl rfl underlying77 rfl sz50 (by decide) ((hρ 31 (lmem rfl)).trans rfl) hp33 rfl hv34⟩) rfl rfl
      (ffc (d := 33) (v := x38) (hd_v rfl fun ρ hρ => ⟨rfl, ov_ldV rfl underlying50 rfl rfl ((hρ 32 (lmem rfl)).trans rfl) hp37 hg39⟩) rfl rfl
      (ffc (d := 34) (v := .int .u8 kind_1) (hd_v rfl fun ρ hρ => ⟨rfl, opv_move rfl rfl ((hρ 1 (lmem rfl)).trans h1)⟩) rfl rfl
      ffn))))) ?_
    refine lt_call (dt := some 43) rfl rfl (fun ρ hρ => ⟨rfl, opc_of rfl rfl is30 (ma_cons ((hρ 33 (lmem rfl)).trans rfl) (ma_cons ((hρ 34 (lmem rfl)).trans rfl) (ma_cons ((hρ 42 (lmem rfl)).trans rfl) (ma_cons rfl rfl))))⟩) H (fun _ _ h _ => ⟨rfl, h⟩) fun r56 aw57 H => ?_
    refine lt_next (l := [14, 15, 16, 17, 18]) (hv := [(14, Value.tuple #[.int .u64 r56.1, .int .i64 r56.2]), (15, Value.int .u64 r56.1), (16, Value.int .i64 r56.2), (17, Value.int .u64 r56.1), (18, Value.int .i64 r56.2)]) rfl rfl (pv_cons rfl (pv_cons rfl (pv_cons rfl (pv_cons rfl (pv_cons rfl (pv_nil _))))))
      (ffc (d := 29) (v := .tuple #[.int .u64 r56.1, .int .i64 r56.2]) (hd_v rfl fun ρ hρ => ⟨rfl, opv_move rfl rfl ((hρ 43 (lmem rfl)).trans rfl)⟩) rfl rfl
      (ffc (d := 44) (v := .int .u64 r56.1) (hd_v rfl fun ρ hρ => ⟨rfl, opv_extract rfl rfl ((hρ 29 (lmem rfl)).trans rfl) rfl⟩) rfl rfl
      (ffc (d := 45) (v := .int .i64 r56.2) (hd_v rfl fun ρ hρ => ⟨rfl, opv_extract rfl rfl ((hρ 29 (lmem rfl)).trans rfl) rfl⟩) rfl rfl
      (ffc (d := 9) (v := .int .u64 r56.1) (hd_v rfl fun ρ hρ => ⟨rfl, opv_assign rfl rfl ((hρ 44 (lmem rfl)).trans rfl)⟩) rfl rfl
      (ffc (d := 10) (v := .int .i64 r56.2) (hd_v rfl fun ρ hρ => ⟨rfl, opv_assign rfl rfl ((hρ 45 (lmem rfl)).trans rfl)⟩) rfl rfl
      ffn))))) ?_
    refine lt_end ?_
    refine ago_seqE E71_10 ?_
    refine ago_cut (fun ρ => ρ 0 = m_0 ∧ ρ 8 = .int .i64 (IntKind.i64.wrap (n23 - n_2)) ∧ ρ 9 = .int .u64 r56.1 ∧ True) ⟨h0, h8, rfl, trivial⟩ (fun ρ ⟨h0, h8, h9, _⟩ => ?_)
    refine ago_regE E71_11 (l := [0, 1, 2, 3, 4, 5, 6, 7, 8, 9]) rfl ?_
    refine lk (dt := some 46) R71_4_N rfl rfl rfl (opv_move rfl rfl h0) ?_
    refine lk (dt := some 47) R71_4_N rfl rfl rfl (opv_move rfl rfl h0) ?_
    obtain ⟨hp58, H⟩ := H
    refine lk (dt := some 48) R71_4_N rfl rfl rfl (ov_nck rfl rfl rfl hp58) ?_
    obtain ⟨b60, i61, p59, hp62, hv63, H⟩ := H
    refine lk (dt := some 49) R71_4_N rfl rfl rfl (ov_fldA rfl rfl underlying77 rfl sz62 (by decide) rfl hp62 rfl hv63) ?_
    obtain ⟨b64, i65, x67, hp66, hg68, H⟩ := H
    refine lk (dt := some 50) R71_4_N rfl rfl rfl (ov_ldV rfl underlying62 rfl rfl rfl hp66 hg68) ?_
    refine lk (dt := some 51) R71_4_N rfl rfl rfl (opv_move rfl rfl h8) ?_
    obtain ⟨v69, hq70, H⟩ := H
    refine lk (dt := some 52) R71_4_N rfl rfl rfl (ov_cutV rfl rfl underlying62 sz26 rfl (bndN _ _ _) (bndS rfl) hq70) ?_
    obtain ⟨hp71, H⟩ := H
    refine lk (dt := some 53) R71_4_N rfl rfl rfl (ov_nck rfl rfl rfl hp71) ?_
    obtain ⟨b73, i74, p72, hp75, hv76, H⟩ := H
    refine lk (dt := some 54) R71_4_N rfl rfl rfl (ov_fldA rfl rfl underlying77 rfl sz62 (by decide) rfl hp75 rfl hv76) ?_
    obtain ⟨b78, i79, aw77, hp80, hw81, ho82, ha83, H⟩ := H
    refine lk (dt := none) R71_4_N rfl rfl rfl (ov_st rfl rfl rfl rfl rfl (cells_all ho82) sz62 hp80 hw81 ho82 ha83) ?_
    refine aops_nil ?_
    refine ago_regE E71_12 (l := [0, 1, 2]) rfl ?_
    refine lk (dt := some 55) R71_5_N rfl rfl rfl (opv_move rfl rfl h0) ?_
    refine lk (dt := some 56) R71_5_N rfl rfl rfl (opv_move rfl rfl h9) ?_
    refine lk_call (dt := some 57) R71_5_N rfl rfl rfl (opc_of rfl rfl is34 (ma_cons rfl (ma_cons rfl rfl))) H (fun _ _ h => ⟨rfl, h⟩) fun r84 aw85 H => ?_
    refine aops_nil ?_
    exact ago_nilR (r := ()) (ares_0 rfl ) rfl H
theorem F71_ok {Q : Unit → AW → Prop} {E : List PanicEntry → AW → Prop} (m_0 : Value) (kind_1 : Int) (n_2 : Int) (first_3 : Value) (aw : AW) (H : S71_0 Q E m_0 kind_1 n_2 first_3 aw) : CallP prog 71 [m_0, .int .u8 kind_1, .int .i64 n_2, first_3] aw sh71 Q E :=
  callP_of func71 C71_is rfl (Nat.le_of_ble_eq_true rfl) (S71_0_ok Q E _ m_0 kind_1 n_2 first_3 aw rfl rfl rfl rfl H)
def C72_0 : Code := bodyOf f72
theorem C72_is : f72.body = some C72_0 := by kernel_rfl
def C72_1 : Code := cl C72_0
def R72_0 : Array Oper := regOps C72_1
def C72_2 : Code := cr C72_0
def C72_3 : Code := cl C72_2
def R72_1 : Array Oper := regOps C72_3
def C72_4 : Code := cr C72_2
def C72_5 : Code := cl C72_4
def R72_2 : Array Oper := regOps C72_5
def C72_6 : Code := cr C72_4
def C72_7 : Code := cl C72_6
def R72_3 : Array Oper := regOps C72_7
def C72_8 : Code := cr C72_6
def C72_9 : Code := cl C72_8
def C72_10 : Code := cl C72_9
def R72_5 : Array Oper := regOps C72_10
def C72_11 : Code := cr C72_9
def C72_12 : Code := cl C72_11
def C72_13 : Code := cl C72_12
def R72_6 : Array Oper := regOps C72_13
def C72_14 : Code := cr C72_12
def C72_15 : Code := cl C72_14
def C72_16 : Code := cl C72_15
def R72_7 : Array Oper := regOps C72_16
def C72_17 : Code := cr C72_15
def C72_18 : Code := cl C72_17
def R72_8 : Array Oper := regOps C72_18
def C72_19 : Code := cr C72_17
def C72_20 : Code := cr C72_14
def R72_9 : Array Oper := regOps C72_20
def C72_21 : Code := cr C72_11
def C72_22 : Code := cl C72_21
def R72_10 : Array Oper := regOps C72_22
def C72_23 : Code := cr C72_21
def C72_24 : Code := cl C72_23
def C72_25 : Code := cl C72_24
def R72_11 : Array Oper := regOps C72_25
def C72_26 : Code := cr C72_24
def C72_27 : Code := cl C72_26
def R72_12 : Array Oper := regOps C72_27
def C72_28 : Code := cr C72_26
def C72_29 : Code := cl C72_28
def R72_13 : Array Oper := regOps C72_29
def C72_30 : Code := cr C72_28
def C72_31 : Code := cl C72_30
def R72_14 : Array Oper := regOps C72_31
def C72_32 : Code := cr C72_30
def C72_33 : Code := cl C72_32
def R72_15 : Array Oper := regOps C72_33
def C72_34 : Code := cr C72_32
def R72_16 : Array Oper := regOps C72_34
def C72_35 : Code := cr C72_23
def R72_4 : Array Oper := regOps C72_35
theorem R72_0_N : dstsOk 101 R72_0 = true := by decide +kernel
theorem E72_1 : C72_1 = .region 0 R72_0 false := rfl
theorem R72_1_N : dstsOk 101 R72_1 = true := by decide +kernel
theorem E72_3 : C72_3 = .region 1 R72_1 false := rfl
theorem R72_2_N : dstsOk 101 R72_2 = true := by decide +kernel
theorem E72_5 : C72_5 = .region 2 R72_2 false := rfl
theorem R72_3_N : dstsOk 101 R72_3 = true := by decide +kernel
theorem E72_7 : C72_7 = .region 3 R72_3 false := rfl
theorem R72_5_N : dstsOk 101 R72_5 = true := by decide +kernel
theorem E72_10 : C72_10 = .region 5 R72_5 false := rfl
theorem R72_6_N : dstsOk 101 R72_6 = true := by decide +kernel
theorem E72_13 : C72_13 = .region 6 R72_6 false := rfl
theorem R72_7_N : dstsOk 101 R72_7 = true := by decide +kernel
theorem E72_16 : C72_16 = .region 7 R72_7 false := rfl
theorem R72_8_N : dstsOk 101 R72_8 = true := by decide +kernel
theorem E72_18 : C72_18 = .region 8 R72_8 false := rfl
theorem E72_19 : C72_19 = .skip := rfl
theorem E72_17 : C72_17 = .cond (.tmp 47) C72_18 C72_19 := rfl
theorem E72_15 : C72_15 = .seq C72_16 C72_17 := rfl
theorem R72_9_N : dstsOk 101 R72_9 = true := by decide +kernel
theorem E72_20 : C72_20 = .region 9 R72_9 false := rfl
theorem E72_14 : C72_14 = .seq C72_15 C72_20 := rfl
theorem E72_12 : C72_12 = .seq C72_13 C72_14 := rfl
theorem R72_10_N : dstsOk 101 R72_10 = true := by decide +kernel
theorem E72_22 : C72_22 = .region 10 R72_10 false := rfl
theorem R72_11_N : dstsOk 101 R72_11 = true := by decide +kernel
theorem E72_25 : C72_25 = .region 11 R72_11 false := rfl
theorem R72_12_N : dstsOk 101 R72_12 = true := by decide +kernel
theorem E72_27 : C72_27 = .region 12 R72_12 false := rfl
theorem R72_13_N : dstsOk 101 R72_13 = true := by decide +kernel
theorem E72_29 : C72_29 = .region 13 R72_13 false := rfl
theorem R72_14_N : dstsOk 101 R72_14 = true := by decide +kernel
theorem E72_31 : C72_31 = .region 14 R72_14 false := rfl
theorem R72_15_N : dstsOk 101 R72_15 = true := by decide +kernel
theorem E72_33 : C72_33 = .region 15 R72_15 false := rfl
theorem R72_16_N : dstsOk 101 R72_16 = true := by decide +kernel
theorem E72_34 : C72_34 = .region 16 R72_16 false := rfl
theorem E72_32 : C72_32 = .seq C72_33 C72_34 := rfl
theorem E72_30 : C72_30 = .seq C72_31 C72_32 := rfl
theorem E72_28 : C72_28 = .seq C72_29 C72_30 := rfl
theorem E72_26 : C72_26 = .seq C72_27 C72_28 := rfl
theorem E72_24 : C72_24 = .seq C72_25 C72_26 := rfl
theorem R72_4_N : dstsOk 101 R72_4 = true := by decide +kernel
theorem E72_35 : C72_35 = .region 4 R72_4 false := rfl
theorem E72_23 : C72_23 = .cond (.tmp 63) C72_24 C72_35 := rfl
theorem E72_21 : C72_21 = .seq C72_22 C72_23 := rfl
theorem E72_11 : C72_11 = .cond (.tmp 31) C72_12 C72_21 := rfl
theorem E72_9 : C72_9 = .seq C72_10 C72_11 := rfl
theorem E72_8 : C72_8 = .block 0 C72_9 := rfl
theorem E72_6 : C72_6 = .seq C72_7 C72_8 := rfl
theorem E72_4 : C72_4 = .seq C72_5 C72_6 := rfl
theorem E72_2 : C72_2 = .seq C72_3 C72_4 := rfl
theorem E72_0 : C72_0 = .seq C72_1 C72_2 := rfl
def S72_0 (Q : Unit → AW → Prop) (E : List PanicEntry → AW → Prop)  (m_0 : Value) (aw : AW) : Prop :=
  CallP prog 81 [m_0] aw sh81 (fun r1 aw2 =>
  nck m_0 (fldA m_0 3 fun p4 =>
  ldV aw2 p4 fun x12 =>
  slen x12 fun n14 =>
  nck m_0 (fldA m_0 3 fun p21 =>
  ldV aw2 p21 fun x29 =>
  ixS x29 (IntKind.i64.wrap (n14 - 2)) 1 fun p31 =>
  ldI .u64 aw2 p31 fun x43 =>
  nck m_0 (fldA m_0 0 fun p46 =>
  ldV aw2 p46 fun x54 =>
  CallP prog 38 [x54, .int .u64 x43] aw2 sh38 (fun r56 aw57 =>
  cnd (decide (r56 = 5)) (CallP prog 70 [m_0, .int .u64 x43, .int .i64 0] aw57 sh70 (fun r59 aw60 =>
  CallP prog 73 [.int .u64 r59] aw60 sh73 (fun r61 aw62 =>
  cnd (decide (r61 < 0)) (E [⟨(.iface 114 (.agg #[.int .i64 3])), false, false⟩] aw62) (nck m_0 (fldA m_0 1 fun p66 =>
  ldV aw62 p66 fun x74 =>
  slen x74 fun n76 =>
  cnd (decide (n76 ≤ r61)) (E [⟨(.iface 114 (.agg #[.int .i64 3])), false, false⟩] aw62) (nck m_0 (fldA m_0 4 fun p84 =>
  ldV aw62 p84 fun x92 =>
  alcS aw62 [.int .i64 r61, .int .i64 0, .int .i64 (IntKind.i64.wrap (n14 - 1))] 85 3 1 fun p94 aw95 =>
  app aw95 85 3 24 x92 p94 fun v98 aw99 =>
  nck m_0 (fldA m_0 4 fun p102 =>
  st aw99 p102 [v98] fun aw107 =>
  Q () aw107)))))) E) E) (cnd (decide (r56 = 6)) (CallP prog 70 [m_0, .int .u64 x43, .int .i64 0] aw57 sh70 (fun r115 aw116 =>
  CallP prog 73 [.int .u64 r115] aw116 sh73 (fun r117 aw118 =>
  nck m_0 (fldA m_0 3 fun p120 =>
  ldV aw118 p120 fun x128 =>
  ixS x128 (IntKind.i64.wrap (n14 - 1)) 1 fun p130 =>
  ldI .u64 aw118 p130 fun x142 =>
  CallP prog 82 [m_0, .int .i64 r117, .int .u64 x142] aw118 sh82 (fun r144 aw145 =>
  CallP prog 37 [m_0] aw145 sh37 (fun r146 aw147 =>
  nck m_0 (fldA m_0 3 fun p149 =>
  ldV aw147 p149 fun x157 =>
  ixS x157 (IntKind.i64.wrap (n14 - 2)) 1 fun p159 =>
  st aw147 p159 [.int .u64 r146] fun aw168 =>
  nck m_0 (fldA m_0 3 fun p176 =>
  ldV aw168 p176 fun x184 =>
  cutV aw168 1 x184 0 (IntKind.i64.wrap (n14 - 1)) fun v186 =>
  nck m_0 (fldA m_0 3 fun p189 =>
  st aw168 p189 [v186] fun aw194 =>
  Q () aw194)))) E) E)) E) E) (E [⟨(.iface 114 (.agg #[.int .i64 3])), false, false⟩] aw57))) E)))) E
theorem S72_0_ok (Q : Unit → AW → Prop) (E : List PanicEntry → AW → Prop)  (ρ : Env) (m_0 : Value) (aw : AW) (h0 : ρ 0 = m_0) (H : S72_0 Q E  m_0 aw) :
    AGo prog 101 [.code C72_0] ρ [] aw (RR prog f72 101 sh72 Q E) := by
  unfold S72_0 at H
  refine ago_seqE E72_0 ?_
  refine ago_regE E72_1 (l := [0, 1]) rfl ?_
  refine lk (dt := some 8) R72_0_N rfl rfl rfl (opv_move rfl rfl h0) ?_
  refine lk_call (dt := some 9) R72_0_N rfl rfl rfl (opc_of rfl rfl is81 (ma_cons rfl rfl)) H (fun _ _ h => ⟨rfl, h⟩) fun r1 aw2 H => ?_
  refine aops_nil ?_
  refine ago_seqE E72_2 ?_
  refine ago_regE E72_3 (l := [0, 1, 2, 3, 4, 5]) rfl ?_
  refine lk (dt := some 10) R72_1_N rfl rfl rfl (opv_move rfl rfl h0) ?_
  obtain ⟨hp3, H⟩ := H
  refine lk (dt := some 11) R72_1_N rfl rfl rfl (ov_nck rfl rfl rfl hp3) ?_
  obtain ⟨b5, i6, p4, hp7, hv8, H⟩ := H
  refine lk (dt := some 12) R72_1_N rfl rfl rfl (ov_fldA rfl rfl underlying77 rfl sz62 (by decide) rfl hp7 rfl hv8) ?_
  obtain ⟨b9, i10, x12, hp11, hg13, H⟩ := H
  refine lk (dt := some 13) R72_1_N rfl rfl rfl (ov_ldV rfl underlying62 rfl rfl rfl hp11 hg13) ?_
  obtain ⟨q15, l16, c17, n14, hv18, hn19, H⟩ := H
  refine lk (dt := some 14) R72_1_N rfl rfl rfl (ov_len rfl rfl rfl underlying62 rfl hv18 hn19) ?_
  refine lk (dt := some 2) R72_1_N rfl rfl rfl (opv_assign rfl rfl rfl) ?_
  refine aops_nil ?_
  refine ago_seqE E72_4 ?_
  refine ago_regE E72_5 (l := [0, 1, 2, 3, 4, 5, 6, 7, 8]) rfl ?_
  refine lk (dt := some 15) R72_2_N rfl rfl rfl (opv_move rfl rfl h0) ?_
  obtain ⟨hp20, H⟩ := H
  refine lk (dt := some 16) R72_2_N rfl rfl rfl (ov_nck rfl rfl rfl hp20) ?_
  obtain ⟨b22, i23, p21, hp24, hv25, H⟩ := H
  refine lk (dt := some 17) R72_2_N rfl rfl rfl (ov_fldA rfl rfl underlying77 rfl sz62 (by decide) rfl hp24 rfl hv25) ?_
  obtain ⟨b26, i27, x29, hp28, hg30, H⟩ := H
  refine lk (dt := some 18) R72_2_N rfl rfl rfl (ov_ldV rfl underlying62 rfl rfl rfl hp28 hg30) ?_
  refine lk (dt := some 19) R72_2_N rfl rfl rfl (opv_move rfl rfl rfl) ?_
  refine lk (dt := some 20) R72_2_N rfl rfl rfl (opv_sub rfl rfl rfl rfl rfl) ?_
  obtain ⟨b32, i33, l34, c35, p31, hp36, h037, hj38, hv39, H⟩ := H
  refine lk (dt := some 21) R72_2_N rfl rfl rfl (ov_ixS rfl rfl rfl underlying62 sz26 rfl rfl hp36 h037 hj38 hv39) ?_
  obtain ⟨b40, i41, x43, hp42, hg44, H⟩ := H
  refine lk (dt := some 22) R72_2_N rfl rfl rfl (ov_ldI rfl underlying26 rfl rfl hp42 hg44) ?_
  refine lk (dt := some 3) R72_2_N rfl rfl rfl (opv_assign rfl rfl rfl) ?_
  refine aops_nil ?_
  refine ago_seqE E72_6 ?_
  refine ago_cut (fun ρ => ρ 0 = m_0 ∧ ρ 2 = .int .i64 n14 ∧ ρ 3 = .int .u64 x43 ∧ True) ⟨h0, rfl, rfl, trivial⟩ (fun ρ ⟨h0, h2, h3, _⟩ => ?_)
  refine ago_regE E72_7 (l := [0, 1, 2, 3, 4, 5]) rfl ?_
  refine lk (dt := some 23) R72_3_N rfl rfl rfl (opv_move rfl rfl h0) ?_
  obtain ⟨hp45, H⟩ := H
  refine lk (dt := some 24) R72_3_N rfl rfl rfl (ov_nck rfl rfl rfl hp45) ?_
  obtain ⟨b47, i48, p46, hp49, hv50, H⟩ := H
  refine lk (dt := some 25) R72_3_N rfl rfl rfl (ov_fldA rfl rfl underlying77 rfl sz50 (by decide) rfl hp49 rfl hv50) ?_
  obtain ⟨b51, i52, x54, hp53, hg55, H⟩ := H
  refine lk (dt := some 26) R72_3_N rfl rfl rfl (ov_ldV rfl underlying50 rfl rfl rfl hp53 hg55) ?_
  refine lk (dt := some 27) R72_3_N rfl rfl rfl (opv_move rfl rfl h3) ?_
  refine lk_call (dt := some 28) R72_3_N rfl rfl rfl (opc_of rfl rfl is38 (ma_cons rfl (ma_cons rfl rfl))) H (fun _ _ h => ⟨rfl, h⟩) fun r56 aw57 H => ?_
  refine aops_nil ?_
  refine ago_blockE E72_8 ?_
  refine ago_seqE E72_9 ?_
  refine ago_regE E72_10 (l := [0, 1]) rfl ?_
  refine lk (dt := some 32) R72_5_N rfl rfl rfl (opv_eqI rfl rfl rfl rfl rfl) ?_
  refine lk (dt := some 31) R72_5_N rfl rfl rfl (opv_assign rfl rfl rfl) ?_
  refine aops_nil ?_
  refine ago_condE  E72_11 rfl rfl (fun hb58 => ?_) (fun hb58 => ?_)
  · replace H := cnd_t H hb58
    refine ago_seqE E72_12 ?_
    refine ago_regE E72_13 (l := [0, 1, 2, 3, 4]) rfl ?_
    refine lk (dt := some 33) R72_6_N rfl rfl rfl (opv_move rfl rfl h0) ?_
    refine lk (dt := some 34) R72_6_N rfl rfl rfl (opv_move rfl rfl h3) ?_
    refine lk_call (dt := some 35) R72_6_N rfl rfl rfl (opc_of rfl rfl is70 (ma_cons rfl (ma_cons rfl (ma_cons rfl rfl)))) H (fun _ _ h => ⟨rfl, h⟩) fun r59 aw60 H => ?_
    refine lk_call (dt := some 36) R72_6_N rfl rfl rfl (opc_of rfl rfl is73 (ma_cons rfl rfl)) H (fun _ _ h => ⟨rfl, h⟩) fun r61 aw62 H => ?_
    refine lk (dt := some 4) R72_6_N rfl rfl rfl (opv_assign rfl rfl rfl) ?_
    refine aops_nil ?_
    refine ago_seqE E72_14 ?_
    refine ago_seqE E72_15 ?_
    refine ago_cut (fun ρ => ρ 0 = m_0 ∧ ρ 2 = .int .i64 n14 ∧ ρ 4 = .int .i64 r61 ∧ True) ⟨h0, h2, rfl, trivial⟩ (fun ρ ⟨h0, h2, h4, _⟩ => ?_)
    refine ago_regE E72_16 (l := [0, 1, 2, 3, 4, 5, 6, 7, 8, 9, 10]) rfl ?_
    refine lk (dt := some 37) R72_7_N rfl rfl rfl (opv_move rfl rfl h4) ?_
    refine lk (dt := some 38) R72_7_N rfl rfl rfl (opv_lt rfl rfl rfl rfl rfl) ?_
    refine lk (dt := some 39) R72_7_N rfl rfl rfl (opv_move rfl rfl rfl) ?_
    rcases Bool.eq_false_or_eq_true (decide (r61 < 0)) with hb63 | hb63
    · replace H := cnd_t H hb63
      refine lk_skip (dt := some 40) R72_7_N rfl rfl ⟨_, rfl, .inl ⟨_, rfl, gq hb63 rfl⟩⟩ ?_
      refine lk_skip (dt := some 41) R72_7_N rfl rfl ⟨_, rfl, .inl ⟨_, rfl, gq hb63 rfl⟩⟩ ?_
      refine lk_skip (dt := some 42) R72_7_N rfl rfl ⟨_, rfl, .inl ⟨_, rfl, gq hb63 rfl⟩⟩ ?_
      refine lk_skip (dt := some 43) R72_7_N rfl rfl ⟨_, rfl, .inl ⟨_, rfl, gq hb63 rfl⟩⟩ ?_
      refine lk_skip (dt := some 44) R72_7_N rfl rfl ⟨_, rfl, .inl ⟨_, rfl, gq hb63 rfl⟩⟩ ?_
      refine lk_skip (dt := some 45) R72_7_N rfl rfl ⟨_, rfl, .inl ⟨_, rfl, gq hb63 rfl⟩⟩ ?_
      refine lk_skip (dt := some 46) R72_7_N rfl rfl ⟨_, rfl, .inl ⟨_, rfl, gq hb63 rfl⟩⟩ ?_
      refine lk (dt := some 47) R72_7_N rfl rfl rfl (ov_pickT rfl rfl rfl rfl rfl hb63 rfl) ?_
      refine aops_nil ?_
      refine ago_condE  E72_17 rfl rfl (fun h => ?_) (fun h => tf h)
      refine ago_regE E72_18 (l := [0, 1, 2]) rfl ?_
      refine lk (dt := some 48) R72_8_N rfl rfl rfl (ov_bld (r := [.int .i64 3]) rfl rfl bo114 (mp_cons rfl rfl) (fillP rfl rfl rfl rfl (fillN rfl))) ?_
      refine lk (dt := some 49) R72_8_N rfl rfl rfl (opv_mkIface rfl rfl underlying114 rfl rfl) ?_
      exact aops_panic R72_8_N rfl rfl (opp_panic rfl rfl rfl) ⟨rfl, H⟩
    · replace H := cnd_f H hb63
      refine lk (dt := some 40) R72_7_N rfl rfl ⟨_, rfl, .inl ⟨_, rfl, gq hb63 rfl⟩⟩ (opv_move rfl rfl h4) ?_
      refine lk (dt := some 41) R72_7_N rfl rfl ⟨_, rfl, .inl ⟨_, rfl, gq hb63 rfl⟩⟩ (opv_move rfl rfl h0) ?_
      obtain ⟨hp65, H⟩ := H
      refine lk (dt := some 42) R72_7_N rfl rfl ⟨_, rfl, .inl ⟨_, rfl, gq hb63 rfl⟩⟩ (ov_nck rfl rfl rfl hp65) ?_
      obtain ⟨b67, i68, p66, hp69, hv70, H⟩ := H
      refine lk (dt := some 43) R72_7_N rfl rfl ⟨_, rfl, .inl ⟨_, rfl, gq hb63 rfl⟩⟩ (ov_fldA rfl rfl underlying77 rfl sz44 (by decide) rfl hp69 rfl hv70) ?_
      obtain ⟨b71, i72, x74, hp73, hg75, H⟩ := H
      refine lk (dt := some 44) R72_7_N rfl rfl ⟨_, rfl, .inl ⟨_, rfl, gq hb63 rfl⟩⟩ (ov_ldV rfl underlying44 rfl rfl rfl hp73 hg75) ?_
      obtain ⟨q77, l78, c79, n76, hv80, hn81, H⟩ := H
      refine lk (dt := some 45) R72_7_N rfl rfl ⟨_, rfl, .inl ⟨_, rfl, gq hb63 rfl⟩⟩ (ov_len rfl rfl rfl underlying44 rfl hv80 hn81) ?_
      refine lk (dt := some 46) R72_7_N rfl rfl ⟨_, rfl, .inl ⟨_, rfl, gq hb63 rfl⟩⟩ (opv_ge rfl rfl rfl rfl rfl) ?_
      refine lk (dt := some 47) R72_7_N rfl rfl rfl (ov_pickF rfl rfl rfl rfl rfl hb63 rfl) ?_
      refine aops_nil ?_
      refine ago_condE  E72_17 rfl rfl (fun hb82 => ?_) (fun hb82 => ?_)
      · replace H := cnd_t H hb82
        refine ago_regE E72_18 (l := [0, 1, 2]) rfl ?_
        refine lk (dt := some 48) R72_8_N rfl rfl rfl (ov_bld (r := [.int .i64 3]) rfl rfl bo114 (mp_cons rfl rfl) (fillP rfl rfl rfl rfl (fillN rfl))) ?_
        refine lk (dt := some 49) R72_8_N rfl rfl rfl (opv_mkIface rfl rfl underlying114 rfl rfl) ?_
        exact aops_panic R72_8_N rfl rfl (opp_panic rfl rfl rfl) ⟨rfl, H⟩
      · replace H := cnd_f H hb82
        refine ago_skipE E72_19 ?_
        refine ago_regE E72_20 (l := [0, 1, 2, 3, 4, 5, 6, 7, 8, 9, 10, 11, 12, 13]) rfl ?_
        refine lk (dt := some 50) R72_9_N rfl rfl rfl (opv_move rfl rfl h0) ?_
        refine lk (dt := some 51) R72_9_N rfl rfl rfl (opv_move rfl rfl h0) ?_
        obtain ⟨hp83, H⟩ := H
        refine lk (dt := some 52) R72_9_N rfl rfl rfl (ov_nck rfl rfl rfl hp83) ?_
        obtain ⟨b85, i86, p84, hp87, hv88, H⟩ := H
        refine lk (dt := some 53) R72_9_N rfl rfl rfl (ov_fldA rfl rfl underlying77 rfl sz70 (by decide) rfl hp87 rfl hv88) ?_
        obtain ⟨b89, i90, x92, hp91, hg93, H⟩ := H
        refine lk (dt := some 54) R72_9_N rfl rfl rfl (ov_ldV rfl underlying70 rfl rfl rfl hp91 hg93) ?_
        refine lk (dt := some 55) R72_9_N rfl rfl rfl (opv_move rfl rfl h4) ?_
        refine lk (dt := some 56) R72_9_N rfl rfl rfl (opv_move rfl rfl h2) ?_
        refine lk (dt := some 57) R72_9_N rfl rfl rfl (opv_sub rfl rfl rfl rfl rfl) ?_
        refine lk (dt := some 58) R72_9_N rfl rfl rfl (ov_bld (r := [.int .i64 r61, .int .i64 0, .int .i64 (IntKind.i64.wrap (n14 - 1))]) rfl rfl bo85 (mp_cons rfl (mp_cons rfl rfl)) (fillP rfl rfl rfl rfl (fillP rfl rfl rfl rfl (fillN rfl)))) ?_
        obtain ⟨p94, aw95, hp96, ha97, H⟩ := H
        refine lk (dt := some 59) R72_9_N rfl rfl rfl (ov_bsA (r := [.int .i64 r61, .int .i64 0, .int .i64 (IntKind.i64.wrap (n14 - 1))]) (vs := [.agg #[.int .i64 r61, .int .i64 0, .int .i64 (IntKind.i64.wrap (n14 - 1))]]) rfl rfl underlying70 sz85 z85 rfl rfl rfl rfl rfl (mp_cons rfl rfl) (.cons (v := .agg #[.int .i64 r61, .int .i64 0, .int .i64 (IntKind.i64.wrap (n14 - 1))]) (xs := [.int .i64 r61, .int .i64 0, .int .i64 (IntKind.i64.wrap (n14 - 1))]) (r := []) rfl rfl .nil) hp96 ha97) ?_
        obtain ⟨v98, aw99, hq100, H⟩ := H
        refine lk (dt := some 60) R72_9_N rfl rfl rfl (ov_app rfl rfl rfl rfl underlying70 sz85 by85 underlying70 rfl z85 rfl (by decide) (by decide) rfl rfl hq100) ?_
        obtain ⟨hp101, H⟩ := H
        refine lk (dt := some 61) R72_9_N rfl rfl rfl (ov_nck rfl rfl rfl hp101) ?_
        obtain ⟨b103, i104, p102, hp105, hv106, H⟩ := H
        refine lk (dt := some 62) R72_9_N rfl rfl rfl (ov_fldA rfl rfl underlying77 rfl sz70 (by decide) rfl hp105 rfl hv106) ?_
        obtain ⟨b108, i109, aw107, hp110, hw111, ho112, ha113, H⟩ := H
        refine lk (dt := none) R72_9_N rfl rfl rfl (ov_st rfl rfl rfl rfl rfl (cells_all ho112) sz70 hp110 hw111 ho112 ha113) ?_
        refine aops_nil ?_
        refine ago_inBlock ?_
        exact ago_nilR (r := ()) (ares_0 rfl ) rfl H
  · replace H := cnd_f H hb58
    refine ago_seqE E72_21 ?_
    refine ago_regE E72_22 (l := [0, 1]) rfl ?_
    refine lk (dt := some 64) R72_10_N rfl rfl rfl (opv_eqI rfl rfl rfl rfl rfl) ?_
    refine lk (dt := some 63) R72_10_N rfl rfl rfl (opv_assign rfl rfl rfl) ?_
    refine aops_nil ?_
    refine ago_condE  E72_23 rfl rfl (fun hb114 => ?_) (fun hb114 => ?_)
    · replace H := cnd_t H hb114
      refine ago_seqE E72_24 ?_
      refine ago_regE E72_25 (l := [0, 1, 2, 3, 4]) rfl ?_
      refine lk (dt := some 65) R72_11_N rfl rfl rfl (opv_move rfl rfl h0) ?_
      refine lk (dt := some 66) R72_11_N rfl rfl rfl (opv_move rfl rfl h3) ?_
      refine lk_call (dt := some 67) R72_11_N rfl rfl rfl (opc_of rfl rfl is70 (ma_cons rfl (ma_cons rfl (ma_cons rfl rfl)))) H (fun _ _ h => ⟨rfl, h⟩) fun r115 aw116 H => ?_
      refine lk_call (dt := some 68) R72_11_N rfl rfl rfl (opc_of rfl rfl is73 (ma_cons rfl rfl)) H (fun _ _ h => ⟨rfl, h⟩) fun r117 aw118 H => ?_
      refine lk (dt := some 5) R72_11_N rfl rfl rfl (opv_assign rfl rfl rfl) ?_
      refine aops_nil ?_
      refine ago_seqE E72_26 ?_
      refine ago_cut (fun ρ => ρ 0 = m_0 ∧ ρ 2 = .int .i64 n14 ∧ ρ 5 = .int .i64 r117 ∧ True) ⟨h0, h2, rfl, trivial⟩ (fun ρ ⟨h0, h2, h5, _⟩ => ?_)
      refine ago_regE E72_27 (l := [0, 1, 2, 3, 4, 5, 6, 7, 8]) rfl ?_
      refine lk (dt := some 69) R72_12_N rfl rfl rfl (opv_move rfl rfl h0) ?_
      obtain ⟨hp119, H⟩ := H
      refine lk (dt := some 70) R72_12_N rfl rfl rfl (ov_nck rfl rfl rfl hp119) ?_
      obtain ⟨b121, i122, p120, hp123, hv124, H⟩ := H
      refine lk (dt := some 71) R72_12_N rfl rfl rfl (ov_fldA rfl rfl underlying77 rfl sz62 (by decide) rfl hp123 rfl hv124) ?_
      obtain ⟨b125, i126, x128, hp127, hg129, H⟩ := H
      refine lk (dt := some 72) R72_12_N rfl rfl rfl (ov_ldV rfl underlying62 rfl rfl rfl hp127 hg129) ?_
      refine lk (dt := some 73) R72_12_N rfl rfl rfl (opv_move rfl rfl h2) ?_
      refine lk (dt := some 74) R72_12_N rfl rfl rfl (opv_sub rfl rfl rfl rfl rfl) ?_
      obtain ⟨b131, i132, l133, c134, p130, hp135, h0136, hj137, hv138, H⟩ := H
      refine lk (dt := some 75) R72_12_N rfl rfl rfl (ov_ixS rfl rfl rfl underlying62 sz26 rfl rfl hp135 h0136 hj137 hv138) ?_
      obtain ⟨b139, i140, x142, hp141, hg143, H⟩ := H
      refine lk (dt := some 76) R72_12_N rfl rfl rfl (ov_ldI rfl underlying26 rfl rfl hp141 hg143) ?_
      refine lk (dt := some 6) R72_12_N rfl rfl rfl (opv_assign rfl rfl rfl) ?_
      refine aops_nil ?_
      refine ago_seqE E72_28 ?_
      refine ago_regE E72_29 (l := [0, 1, 2, 3]) rfl ?_
      refine lk (dt := some 77) R72_13_N rfl rfl rfl (opv_move rfl rfl h0) ?_
      refine lk (dt := some 78) R72_13_N rfl rfl rfl (opv_move rfl rfl h5) ?_
      refine lk (dt := some 79) R72_13_N rfl rfl rfl (opv_move rfl rfl rfl) ?_
      refine lk_call (dt := some 80) R72_13_N rfl rfl rfl (opc_of rfl rfl is82 (ma_cons rfl (ma_cons rfl (ma_cons rfl rfl)))) H (fun _ _ h => ⟨rfl, h⟩) fun r144 aw145 H => ?_
      refine aops_nil ?_
      refine ago_seqE E72_30 ?_
      refine ago_cut (fun ρ => ρ 0 = m_0 ∧ ρ 2 = .int .i64 n14 ∧ True) ⟨h0, h2, trivial⟩ (fun ρ ⟨h0, h2, _⟩ => ?_)
      refine ago_regE E72_31 (l := [0, 1, 2]) rfl ?_
      refine lk (dt := some 81) R72_14_N rfl rfl rfl (opv_move rfl rfl h0) ?_
      refine lk_call (dt := some 82) R72_14_N rfl rfl rfl (opc_of rfl rfl is37 (ma_cons rfl rfl)) H (fun _ _ h => ⟨rfl, h⟩) fun r146 aw147 H => ?_
      refine lk (dt := some 7) R72_14_N rfl rfl rfl (opv_assign rfl rfl rfl) ?_
      refine aops_nil ?_
      refine ago_seqE E72_32 ?_
      refine ago_regE E72_33 (l := [0, 1, 2, 3, 4, 5, 6, 7, 8]) rfl ?_
      refine lk (dt := some 83) R72_15_N rfl rfl rfl (opv_move rfl rfl h0) ?_
      obtain ⟨hp148, H⟩ := H
      refine lk (dt := some 84) R72_15_N rfl rfl rfl (ov_nck rfl rfl rfl hp148) ?_
      obtain ⟨b150, i151, p149, hp152, hv153, H⟩ := H
      refine lk (dt := some 85) R72_15_N rfl rfl rfl (ov_fldA rfl rfl underlying77 rfl sz62 (by decide) rfl hp152 rfl hv153) ?_
      obtain ⟨b154, i155, x157, hp156, hg158, H⟩ := H
      refine lk (dt := some 86) R72_15_N rfl rfl rfl (ov_ldV rfl underlying62 rfl rfl rfl hp156 hg158) ?_
      refine lk (dt := some 87) R72_15_N rfl rfl rfl (opv_move rfl rfl h2) ?_
      refine lk (dt := some 88) R72_15_N rfl rfl rfl (opv_sub rfl rfl rfl rfl rfl) ?_
      refine lk (dt := some 89) R72_15_N rfl rfl rfl (opv_move rfl rfl rfl) ?_
      obtain ⟨b160, i161, l162, c163, p159, hp164, h0165, hj166, hv167, H⟩ := H
      refine lk (dt := some 90) R72_15_N rfl rfl rfl (ov_ixS rfl rfl rfl underlying62 sz26 rfl rfl hp164 h0165 hj166 hv167) ?_
      obtain ⟨b169, i170, aw168, hp171, hw172, ho173, ha174, H⟩ := H
      refine lk (dt := none) R72_15_N rfl rfl rfl (ov_st rfl rfl rfl rfl rfl rfl sz26 hp171 hw172 ho173 ha174) ?_
      refine aops_nil ?_
      refine ago_cut (fun ρ => ρ 0 = m_0 ∧ ρ 2 = .int .i64 n14 ∧ True) ⟨h0, h2, trivial⟩ (fun ρ ⟨h0, h2, _⟩ => ?_)
      refine ago_regE E72_34 (l := [0, 1, 2, 3, 4, 5, 6, 7, 8, 9, 10]) rfl ?_
      refine lk (dt := some 91) R72_16_N rfl rfl rfl (opv_move rfl rfl h0) ?_
      refine lk (dt := some 92) R72_16_N rfl rfl rfl (opv_move rfl rfl h0) ?_
      obtain ⟨hp175, H⟩ := H
      refine lk (dt := some 93) R72_16_N rfl rfl rfl (ov_nck rfl rfl rfl hp175) ?_
      obtain ⟨b177, i178, p176, hp179, hv180, H⟩ := H
      refine lk (dt := some 94) R72_16_N rfl rfl rfl (ov_fldA rfl rfl underlying77 rfl sz62 (by decide) rfl hp179 rfl hv180) ?_
      obtain ⟨b181, i182, x184, hp183, hg185, H⟩ := H
      refine lk (dt := some 95) R72_16_N rfl rfl rfl (ov_ldV rfl underlying62 rfl rfl rfl hp183 hg185) ?_
      refine lk (dt := some 96) R72_16_N rfl rfl rfl (opv_move rfl rfl h2) ?_
      refine lk (dt := some 97) R72_16_N rfl rfl rfl (opv_sub rfl rfl rfl rfl rfl) ?_
      obtain ⟨v186, hq187, H⟩ := H
      refine lk (dt := some 98) R72_16_N rfl rfl rfl (ov_cutV rfl rfl underlying62 sz26 rfl (bndN _ _ _) (bndS rfl) hq187) ?_
      obtain ⟨hp188, H⟩ := H
      refine lk (dt := some 99) R72_16_N rfl rfl rfl (ov_nck rfl rfl rfl hp188) ?_
      obtain ⟨b190, i191, p189, hp192, hv193, H⟩ := H
      refine lk (dt := some 100) R72_16_N rfl rfl rfl (ov_fldA rfl rfl underlying77 rfl sz62 (by decide) rfl hp192 rfl hv193) ?_
      obtain ⟨b195, i196, aw194, hp197, hw198, ho199, ha200, H⟩ := H
      refine lk (dt := none) R72_16_N rfl rfl rfl (ov_st rfl rfl rfl rfl rfl (cells_all ho199) sz62 hp197 hw198 ho199 ha200) ?_
      refine aops_nil ?_
      refine ago_inBlock ?_
      exact ago_nilR (r := ()) (ares_0 rfl ) rfl H
    · replace H := cnd_f H hb114
      refine ago_regE E72_35 (l := [0, 1, 2]) rfl ?_
      refine lk (dt := some 29) R72_4_N rfl rfl rfl (ov_bld (r := [.int .i64 3]) rfl rfl bo114 (mp_cons rfl rfl) (fillP rfl rfl rfl rfl (fillN rfl))) ?_
      refine lk (dt := some 30) R72_4_N rfl rfl rfl (opv_mkIface rfl rfl underlying114 rfl rfl) ?_
      exact aops_panic R72_4_N rfl rfl (opp_panic rfl rfl rfl) ⟨rfl, H⟩
theorem F72_ok {Q : Unit → AW → Prop} {E : List PanicEntry → AW → Prop} (m_0 : Value) (aw : AW) (H : S72_0 Q E m_0 aw) : CallP prog 72 [m_0] aw sh72 Q E :=
  callP_of func72 C72_is rfl (Nat.le_of_ble_eq_true rfl) (S72_0_ok Q E _ m_0 aw rfl H)
def C74_0 : Code := bodyOf f74
theorem C74_is : f74.body = some C74_0 := by kernel_rfl
def C74_1 : Code := cl C74_0
def R74_0 : Array Oper := regOps C74_1
def C74_2 : Code := cr C74_0
def C74_3 : Code := cl C74_2
def C74_4 : Code := cl C74_3
def R74_1 : Array Oper := regOps C74_4
def C74_5 : Code := cr C74_3
def C74_6 : Code := cl C74_5
def C74_7 : Code := cl C74_6
def R74_2 : Array Oper := regOps C74_7
def C74_8 : Code := cr C74_6
def C74_9 : Code := cl C74_8
def C74_10 : Code := cl C74_9
def R74_3 : Array Oper := regOps C74_10
def C74_11 : Code := cr C74_9
def C74_12 : Code := cl C74_11
def C74_13 : Code := cl C74_12
def R74_4 : Array Oper := regOps C74_13
def C74_14 : Code := cr C74_12
def C74_15 : Code := cl C74_14
def R74_5 : Array Oper := regOps C74_15
def C74_16 : Code := cr C74_14
def C74_17 : Code := cr C74_11
def C74_18 : Code := cl C74_17
def R74_6 : Array Oper := regOps C74_18
def C74_19 : Code := cr C74_17
def C74_20 : Code := cl C74_19
def R74_7 : Array Oper := regOps C74_20
def C74_21 : Code := cr C74_19
def C74_22 : Code := cl C74_21
def R74_8 : Array Oper := regOps C74_22
def C74_23 : Code := cr C74_21
def C74_24 : Code := cl C74_23
def R74_9 : Array Oper := regOps C74_24
def C74_25 : Code := cr C74_23
def C74_26 : Code := cr C74_8
def C74_27 : Code := cl C74_26
def R74_10 : Array Oper := regOps C74_27
def C74_28 : Code := cr C74_26
def C74_29 : Code := cl C74_28
def C74_30 : Code := cl C74_29
def R74_11 : Array Oper := regOps C74_30
def C74_31 : Code := cr C74_29
def C74_32 : Code := cl C74_31
def R74_12 : Array Oper := regOps C74_32
def C74_33 : Code := cr C74_31
def C74_34 : Code := cl C74_33
def R74_13 : Array Oper := regOps C74_34
def C74_35 : Code := cr C74_33
def C74_36 : Code := cr C74_28
def C74_37 : Code := cr C74_2
def C74_38 : Code := cl C74_37
def R74_14 : Array Oper := regOps C74_38
def C74_39 : Code := cr C74_37
def C74_40 : Code := cl C74_39
def R74_15 : Array Oper := regOps C74_40
def C74_41 : Code := cr C74_39
def R74_16 : Array Oper := regOps C74_41
theorem R74_0_N : dstsOk 129 R74_0 = true := by decide +kernel
theorem R74_0_O : linOk R74_0 [0, 1, 2, 3, 4, 5, 6, 7, 8, 9, 10, 11, 12, 13, 14, 15, 16, 17, 18, 19, 20, 21, 22, 23, 24, 25] [] = true := by decide +kernel
theorem E74_1 : C74_1 = .region 0 R74_0 true := rfl
theorem R74_1_N : dstsOk 129 R74_1 = true := by decide +kernel
theorem E74_4 : C74_4 = .region 1 R74_1 false := rfl
theorem R74_2_N : dstsOk 129 R74_2 = true := by decide +kernel
theorem E74_7 : C74_7 = .region 2 R74_2 false := rfl
theorem R74_3_N : dstsOk 129 R74_3 = true := by decide +kernel
theorem R74_3_O : linOk R74_3 [0, 1, 2, 3, 4, 6, 7, 8, 9, 10] [(5, [6, 7, 8, 9, 10], []), (11, [], [12, 13])] = true := by decide +kernel
theorem E74_10 : C74_10 = .region 3 R74_3 true := rfl
theorem R74_4_N : dstsOk 129 R74_4 = true := by decide +kernel
theorem E74_13 : C74_13 = .region 4 R74_4 false := rfl
theorem R74_5_N : dstsOk 129 R74_5 = true := by decide +kernel
theorem E74_15 : C74_15 = .region 5 R74_5 false := rfl
theorem E74_16 : C74_16 = .skip := rfl
theorem E74_14 : C74_14 = .cond (.tmp 54) C74_15 C74_16 := rfl
theorem E74_12 : C74_12 = .seq C74_13 C74_14 := rfl
theorem R74_6_N : dstsOk 129 R74_6 = true := by decide +kernel
theorem E74_18 : C74_18 = .region 6 R74_6 false := rfl
theorem R74_7_N : dstsOk 129 R74_7 = true := by decide +kernel
theorem E74_20 : C74_20 = .region 7 R74_7 false := rfl
theorem R74_8_N : dstsOk 129 R74_8 = true := by decide +kernel
theorem R74_8_O : linOk R74_8 [0, 1, 2, 3, 4, 5, 6, 7, 8, 9, 10, 11, 12, 13] [(14, [], [])] = true := by decide +kernel
theorem E74_22 : C74_22 = .region 8 R74_8 true := rfl
theorem R74_9_N : dstsOk 129 R74_9 = true := by decide +kernel
theorem E74_24 : C74_24 = .region 9 R74_9 false := rfl
theorem E74_25 : C74_25 = .ret := rfl
theorem E74_23 : C74_23 = .seq C74_24 C74_25 := rfl
theorem E74_21 : C74_21 = .seq C74_22 C74_23 := rfl
theorem E74_19 : C74_19 = .seq C74_20 C74_21 := rfl
theorem E74_17 : C74_17 = .seq C74_18 C74_19 := rfl
theorem E74_11 : C74_11 = .seq C74_12 C74_17 := rfl
theorem E74_9 : C74_9 = .seq C74_10 C74_11 := rfl
theorem R74_10_N : dstsOk 129 R74_10 = true := by decide +kernel
theorem E74_27 : C74_27 = .region 10 R74_10 false := rfl
theorem R74_11_N : dstsOk 129 R74_11 = true := by decide +kernel
theorem E74_30 : C74_30 = .region 11 R74_11 false := rfl
theorem R74_12_N : dstsOk 129 R74_12 = true := by decide +kernel
theorem R74_12_O : linOk R74_12 [0, 1, 2, 3, 4, 5, 6, 7, 8, 9, 10, 11, 12, 13] [(14, [], [])] = true := by decide +kernel
theorem E74_32 : C74_32 = .region 12 R74_12 true := rfl
theorem R74_13_N : dstsOk 129 R74_13 = true := by decide +kernel
theorem E74_34 : C74_34 = .region 13 R74_13 false := rfl
theorem E74_35 : C74_35 = .ret := rfl
theorem E74_33 : C74_33 = .seq C74_34 C74_35 := rfl
theorem E74_31 : C74_31 = .seq C74_32 C74_33 := rfl
theorem E74_29 : C74_29 = .seq C74_30 C74_31 := rfl
theorem E74_36 : C74_36 = .skip := rfl
theorem E74_28 : C74_28 = .cond (.tmp 81) C74_29 C74_36 := rfl
theorem E74_26 : C74_26 = .seq C74_27 C74_28 := rfl
theorem E74_8 : C74_8 = .cond (.tmp 35) C74_9 C74_26 := rfl
theorem E74_6 : C74_6 = .seq C74_7 C74_8 := rfl
theorem E74_5 : C74_5 = .block 0 C74_6 := rfl
theorem E74_3 : C74_3 = .seq C74_4 C74_5 := rfl
theorem R74_14_N : dstsOk 129 R74_14 = true := by decide +kernel
theorem E74_38 : C74_38 = .region 14 R74_14 false := rfl
theorem R74_15_N : dstsOk 129 R74_15 = true := by decide +kernel
theorem R74_15_O : linOk R74_15 [0, 1, 2, 3, 4, 5, 6, 7, 8, 9, 10, 11, 12, 13] [(14, [], [])] = true := by decide +kernel
theorem E74_40 : C74_40 = .region 15 R74_15 true := rfl
theorem R74_16_N : dstsOk 129 R74_16 = true := by decide +kernel
theorem E74_41 : C74_41 = .region 16 R74_16 false := rfl
theorem E74_39 : C74_39 = .seq C74_40 C74_41 := rfl
theorem E74_37 : C74_37 = .seq C74_38 C74_39 := rfl
theorem E74_2 : C74_2 = .seq C74_3 C74_37 := rfl
theorem E74_0 : C74_0 = .seq C74_1 C74_2 := rfl
def S74_0 (Q : Unit → AW → Prop) (E : List PanicEntry → AW → Prop)  (m_0 : Value) (sign_1 : Int) (aw : AW) : Prop :=
  nck m_0 (fldA m_0 3 fun p2 =>
  ldV aw p2 fun x10 =>
  nck m_0 (fldA m_0 3 fun p13 =>
  ldV aw p13 fun x21 =>
  slen x21 fun n23 =>
  ixS x10 (IntKind.i64.wrap (n23 - 1)) 1 fun p29 =>
  ldI .u64 aw p29 fun x41 =>
  nck m_0 (fldA m_0 3 fun p44 =>
  ldV aw p44 fun x52 =>
  nck m_0 (fldA m_0 3 fun p55 =>
  ldV aw p55 fun x63 =>
  slen x63 fun n65 =>
  ixS x52 (IntKind.i64.wrap (n65 - 2)) 1 fun p71 =>
  ldI .u64 aw p71 fun x83 =>
  cnd (decide (sign_1 = 9)) (nck m_0 (fldA m_0 0 fun p87 =>
  ldV aw p87 fun x95 =>
  nck m_0 (fldA m_0 0 fun p98 =>
  ldV aw p98 fun x106 =>
  CallP prog 19 [x95, .int .u64 x83] aw sh19 (fun r108 aw109 =>
  again1 aw109 p98 (x106) ∧ CallP prog 19 [x106, .int .u64 x41] aw109 sh19 (fun r110 aw111 =>
  cnd (decide (4096 < (IntKind.i64.wrap ((r108.size : Int) + (r110.size : Int))))) (E [⟨(.iface 116 (.agg #[.string (⟨#[108, 111, 110, 103]⟩ : ByteArray)])), false, false⟩] aw111) (r108.size + r110.size ≤ 2 ^ 62 ∧ CallP prog 69 [m_0, .string (r108 ++ r110)] aw111 sh69 (fun r114 aw115 =>
  CallP prog 37 [m_0] aw115 sh37 (fun r116 aw117 =>
  nck m_0 (fldA m_0 3 fun p119 =>
  ldV aw117 p119 fun x127 =>
  nck m_0 (fldA m_0 3 fun p130 =>
  ldV aw117 p130 fun x138 =>
  slen x138 fun n140 =>
  cutV aw117 1 x127 0 (IntKind.i64.wrap (n140 - 2)) fun v146 =>
  nck m_0 (fldA m_0 3 fun p149 =>
  st aw117 p149 [v146] fun aw154 =>
  CallP prog 34 [m_0, .int .u64 r116] aw154 sh34 (fun r161 aw162 =>
  Q () aw162) E)))) E) E)) E) E))) (cnd (decide (sign_1 = 10)) (nck m_0 (fldA m_0 0 fun p165 =>
  ldV aw p165 fun x173 =>
  CallP prog 83 [x173, .int .u64 x83, .int .i64 0, .int .u64 x41] aw sh83 (fun r175 aw176 =>
  nck m_0 (fldA m_0 3 fun p178 =>
  ldV aw176 p178 fun x186 =>
  nck m_0 (fldA m_0 3 fun p189 =>
  ldV aw176 p189 fun x197 =>
  slen x197 fun n199 =>
  cutV aw176 1 x186 0 (IntKind.i64.wrap (n199 - 2)) fun v205 =>
  nck m_0 (fldA m_0 3 fun p208 =>
  st aw176 p208 [v205] fun aw213 =>
  CallP prog 14 [.int .i64 0] aw213 sh14 (fun r220 aw221 =>
  CallP prog 34 [m_0, .int .u64 r220] aw221 sh34 (fun r222 aw223 =>
  Q () aw223) E) E)))) E)) (CallP prog 84 [m_0, .int .i64 sign_1, .int .u64 x83, .int .u64 x41] aw sh84 (fun r224 aw225 =>
  nck m_0 (fldA m_0 3 fun p227 =>
  ldV aw225 p227 fun x235 =>
  nck m_0 (fldA m_0 3 fun p238 =>
  ldV aw225 p238 fun x246 =>
  slen x246 fun n248 =>
  cutV aw225 1 x235 0 (IntKind.i64.wrap (n248 - 2)) fun v254 =>
  nck m_0 (fldA m_0 3 fun p257 =>
  st aw225 p257 [v254] fun aw262 =>
  CallP prog 34 [m_0, .int .u64 r224] aw262 sh34 (fun r269 aw270 =>
  Q () aw270) E)))) E))))))
theorem S74_0_ok (Q : Unit → AW → Prop) (E : List PanicEntry → AW → Prop)  (ρ : Env) (m_0 : Value) (sign_1 : Int) (aw : AW) (h0 : ρ 0 = m_0) (h1 : ρ 1 = .int .i64 sign_1) (H : S74_0 Q E  m_0 sign_1 aw) :
    AGo prog 129 [.code C74_0] ρ [] aw (RR prog f74 129 sh74 Q E) := by
  unfold S74_0 at H
  refine ago_seqE E74_0 ?_
  obtain ⟨hp1, H⟩ := H
  obtain ⟨b3, i4, p2, hp5, hv6, H⟩ := H
  obtain ⟨b7, i8, x10, hp9, hg11, H⟩ := H
  obtain ⟨hp12, H⟩ := H
  obtain ⟨b14, i15, p13, hp16, hv17, H⟩ := H
  obtain ⟨b18, i19, x21, hp20, hg22, H⟩ := H
  obtain ⟨q24, l25, c26, n23, hv27, hn28, H⟩ := H
  obtain ⟨b30, i31, l32, c33, p29, hp34, h035, hj36, hv37, H⟩ := H
  obtain ⟨b38, i39, x41, hp40, hg42, H⟩ := H
  obtain ⟨hp43, H⟩ := H
  obtain ⟨b45, i46, p44, hp47, hv48, H⟩ := H
  obtain ⟨b49, i50, x52, hp51, hg53, H⟩ := H
  obtain ⟨hp54, H⟩ := H
  obtain ⟨b56, i57, p55, hp58, hv59, H⟩ := H
  obtain ⟨b60, i61, x63, hp62, hg64, H⟩ := H
  obtain ⟨q66, l67, c68, n65, hv69, hn70, H⟩ := H
  obtain ⟨b72, i73, l74, c75, p71, hp76, h077, hj78, hv79, H⟩ := H
  obtain ⟨b80, i81, x83, hp82, hg84, H⟩ := H
  refine ago_drawH (p := [0, 1, 2, 3, 4, 5, 6, 7, 8, 9, 10, 11, 12, 13, 14, 15, 16, 17, 18, 19, 20, 21, 22, 23, 24, 25]) (tl := []) (hv := [(0, m_0), (1, m_0), (2, p2), (3, x10), (4, m_0), (5, m_0), (6, p13), (7, x21), (8, Value.int .i64 n23), (9, Value.int .i64 (IntKind.i64.wrap (n23 - 1))), (10, p29), (11, Value.int .u64 x41), (12, m_0), (13, m_0), (14, p44), (15, x52), (16, m_0), (17, m_0), (18, p55), (19, x63), (20, Value.int .i64 n65), (21, Value.int .i64 (IntKind.i64.wrap (n65 - 2))), (22, p71), (23, Value.int .u64 x83), (24, Value.int .u64 x41), (25, Value.int .u64 x83)]) E74_1 mixed R74_0_N R74_0_O rfl (pv_cons rfl (pv_cons rfl (pv_cons rfl (pv_cons rfl (pv_cons rfl (pv_cons rfl (pv_cons rfl (pv_cons rfl (pv_cons rfl (pv_cons rfl (pv_cons rfl (pv_cons rfl (pv_cons rfl (pv_cons rfl (pv_cons rfl (pv_cons rfl (pv_cons rfl (pv_cons rfl (pv_cons rfl (pv_cons rfl (pv_cons rfl (pv_cons rfl (pv_cons rfl (pv_cons rfl (pv_cons rfl (pv_cons rfl (pv_nil _)))))))))))))))))))))))))))
    (ffc (d := 10) (v := m_0) (hd_v rfl fun ρ hρ => ⟨rfl, opv_move rfl rfl ((hρ 0 (lmem rfl)).trans h0)⟩) rfl rfl
    (ffc (d := 11) (v := m_0) (hd_v rfl fun ρ hρ => ⟨rfl, ov_nck rfl rfl ((hρ 10 (lmem rfl)).trans rfl) hp1⟩) rfl rfl
    (ffc (d := 12) (v := p2) (hd_v rfl fun ρ hρ => ⟨rfl, ov_fldA rfl rfl underlying77 rfl sz62 (by decide) ((hρ 11 (lmem rfl)).trans rfl) hp5 rfl hv6⟩) rfl rfl
    (ffc (d := 13) (v := x10) (hd_v rfl fun ρ hρ => ⟨rfl, ov_ldV rfl underlying62 rfl rfl ((hρ 12 (lmem rfl)).trans rfl) hp9 hg11⟩) rfl rfl
    (ffc (d := 14) (v := m_0) (hd_v rfl fun ρ hρ => ⟨rfl, opv_move rfl rfl ((hρ 0 (lmem rfl)).trans h0)⟩) rfl rfl
    (ffc (d := 15) (v := m_0) (hd_v rfl fun ρ hρ => ⟨rfl, ov_nck rfl rfl ((hρ 14 (lmem rfl)).trans rfl) hp12⟩) rfl rfl
    (ffc (d := 16) (v := p13) (hd_v rfl fun ρ hρ => ⟨rfl, ov_fldA rfl rfl underlying77 rfl sz62 (by decide) ((hρ 15 (lmem rfl)).trans rfl) hp16 rfl hv17⟩) rfl rfl
    (ffc (d := 17) (v := x21) (hd_v rfl fun ρ hρ => ⟨rfl, ov_ldV rfl underlying62 rfl rfl ((hρ 16 (lmem rfl)).trans rfl) hp20 hg22⟩) rfl rfl
    (ffc (d := 18) (v := .int .i64 n23) (hd_v rfl fun ρ hρ => ⟨rfl, ov_len rfl rfl rfl underlying62 ((hρ 17 (lmem rfl)).trans rfl) hv27 hn28⟩) rfl rfl
    (ffc (d := 19) (v := .int .i64 (IntKind.i64.wrap (n23 - 1))) (hd_v rfl fun ρ hρ => ⟨rfl, opv_sub rfl rfl rfl ((hρ 18 (lmem rfl)).trans rfl) rfl⟩) rfl rfl
    (ffc (d := 20) (v := p29) (hd_v rfl fun ρ hρ => ⟨rfl, ov_ixS rfl rfl rfl underlying62 sz26 ((hρ 13 (lmem rfl)).trans rfl) ((hρ 19 (lmem rfl)).trans rfl) hp34 h035 hj36 hv37⟩) rfl rfl
    (ffc (d := 21) (v := .int .u64 x41) (hd_v rfl fun ρ hρ => ⟨rfl, ov_ldI rfl underlying26 rfl ((hρ 20 (lmem rfl)).trans rfl) hp40 hg42⟩) rfl rfl
    (ffc (d := 22) (v := m_0) (hd_v rfl fun ρ hρ => ⟨rfl, opv_move rfl rfl ((hρ 0 (lmem rfl)).trans h0)⟩) rfl rfl
    (ffc (d := 23) (v := m_0) (hd_v rfl fun ρ hρ => ⟨rfl, ov_nck rfl rfl ((hρ 22 (lmem rfl)).trans rfl) hp43⟩) rfl rfl
    (ffc (d := 24) (v := p44) (hd_v rfl fun ρ hρ => ⟨rfl, ov_fldA rfl rfl underlying77 rfl sz62 (by decide) ((hρ 23 (lmem rfl)).trans rfl) hp47 rfl hv48⟩) rfl rfl
    (ffc (d := 25) (v := x52) (hd_v rfl fun ρ hρ => ⟨rfl, ov_ldV rfl underlying62 rfl rfl ((hρ 24 (lmem rfl)).trans rfl) hp51 hg53⟩) rfl rfl
    (ffc (d := 26) (v := m_0) (hd_v rfl fun ρ hρ => ⟨rfl, opv_move rfl rfl ((hρ 0 (lmem rfl)).trans h0)⟩) rfl rfl
    (ffc (d := 27) (v := m_0) (hd_v rfl fun ρ hρ => ⟨rfl, ov_nck rfl rfl ((hρ 26 (lmem rfl)).trans rfl) hp54⟩) rfl rfl
    (ffc (d := 28) (v := p55) (hd_v rfl fun ρ hρ => ⟨rfl, ov_fldA rfl rfl underlying77 rfl sz62 (by decide) ((hρ 27 (lmem rfl)).trans rfl) hp58 rfl hv59⟩) rfl rfl
    (ffc (d := 29) (v := x63) (hd_v rfl fun ρ hρ => ⟨rfl, ov_ldV rfl underlying62 rfl rfl ((hρ 28 (lmem rfl)).trans rfl) hp62 hg64⟩) rfl rfl
    (ffc (d := 30) (v := .int .i64 n65) (hd_v rfl fun ρ hρ => ⟨rfl, ov_len rfl rfl rfl underlying62 ((hρ 29 (lmem rfl)).trans rfl) hv69 hn70⟩) rfl rfl
    (ffc (d := 31) (v := .int .i64 (IntKind.i64.wrap (n65 - 2))) (hd_v rfl fun ρ hρ => ⟨rfl, opv_sub rfl rfl rfl ((hρ 30 (lmem rfl)).trans rfl) rfl⟩) rfl rfl
    (ffc (d := 32) (v := p71) (hd_v rfl fun ρ hρ => ⟨rfl, ov_ixS rfl rfl rfl underlying62 sz26 ((hρ 25 (lmem rfl)).trans rfl) ((hρ 31 (lmem rfl)).trans rfl) hp76 h077 hj78 hv79⟩) rfl rfl
    (ffc (d := 33) (v := .int .u64 x83) (hd_v rfl fun ρ hρ => ⟨rfl, ov_ldI rfl underlying26 rfl ((hρ 32 (lmem rfl)).trans rfl) hp82 hg84⟩) rfl rfl
    (ffc (d := 4) (v := .int .u64 x41) (hd_v rfl fun ρ hρ => ⟨rfl, opv_assign rfl rfl ((hρ 21 (lmem rfl)).trans rfl)⟩) rfl rfl
    (ffc (d := 5) (v := .int .u64 x83) (hd_v rfl fun ρ hρ => ⟨rfl, opv_assign rfl rfl ((hρ 33 (lmem rfl)).trans rfl)⟩) rfl rfl
    ffn)))))))))))))))))))))))))) ?_
  refine lt_end ?_
  refine ago_seqE E74_2 ?_
  refine ago_seqE E74_3 ?_
  refine ago_cut (fun ρ => ρ 0 = m_0 ∧ ρ 1 = .int .i64 sign_1 ∧ ρ 4 = .int .u64 x41 ∧ ρ 5 = .int .u64 x83 ∧ True) ⟨h0, h1, rfl, rfl, trivial⟩ (fun ρ ⟨h0, h1, h4, h5, _⟩ => ?_)
  refine ago_regE E74_4 (l := [0]) rfl ?_
  refine lk (dt := some 34) R74_1_N rfl rfl rfl (opv_move rfl rfl h1) ?_
  refine aops_nil ?_
  refine ago_blockE E74_5 ?_
  refine ago_seqE E74_6 ?_
  refine ago_regE E74_7 (l := [0, 1]) rfl ?_
  refine lk (dt := some 36) R74_2_N rfl rfl rfl (opv_eqI rfl rfl rfl rfl rfl) ?_
  refine lk (dt := some 35) R74_2_N rfl rfl rfl (opv_assign rfl rfl rfl) ?_
  refine aops_nil ?_
  refine ago_condE  E74_8 rfl rfl (fun hb85 => ?_) (fun hb85 => ?_)
  · replace H := cnd_t H hb85
    refine ago_seqE E74_9 ?_
    obtain ⟨hp86, H⟩ := H
    obtain ⟨b88, i89, p87, hp90, hv91, H⟩ := H
    obtain ⟨b92, i93, x95, hp94, hg96, H⟩ := H
    obtain ⟨hp97, H⟩ := H
    obtain ⟨b99, i100, p98, hp101, hv102, H⟩ := H
    obtain ⟨b103, i104, x106, hp105, hg107, H⟩ := H
    refine ago_drawH (p := [0, 1, 2, 3, 4, 6, 7, 8, 9, 10]) (tl := [(5, [6, 7, 8, 9, 10], []), (11, [], [12, 13])]) (hv := [(0, m_0), (1, m_0), (2, p87), (3, x95), (4, Value.int .u64 x83), (6, m_0), (7, m_0), (8, p98), (9, x106), (10, Value.int .u64 x41)]) E74_10 mixed R74_3_N R74_3_O rfl (pv_cons rfl (pv_cons rfl (pv_cons rfl (pv_cons rfl (pv_cons rfl (pv_cons rfl (pv_cons rfl (pv_cons rfl (pv_cons rfl (pv_cons rfl (pv_nil _)))))))))))
      (ffc (d := 37) (v := m_0) (hd_v rfl fun ρ hρ => ⟨rfl, opv_move rfl rfl ((hρ 0 (lmem rfl)).trans h0)⟩) rfl rfl
      (ffc (d := 38) (v := m_0) (hd_v rfl fun ρ hρ => ⟨rfl, ov_nck rfl rfl ((hρ 37 (lmem rfl)).trans rfl) hp86⟩) rfl rfl
      (ffc (d := 39) (v := p87) (hd_v rfl fun ρ hρ => ⟨rfl, ov_fldA rfl rfl underlying77 rfl sz50 (by decide) ((hρ 38 (lmem rfl)).trans rfl) hp90 rfl hv91⟩) rfl rfl
      (ffc (d := 40) (v := x95) (hd_v rfl fun ρ hρ => ⟨rfl, ov_ldV rfl underlying50 rfl rfl ((hρ 39 (lmem rfl)).trans rfl) hp94 hg96⟩) rfl rfl
      (ffc (d := 41) (v := .int .u64 x83) (hd_v rfl fun ρ hρ => ⟨rfl, opv_move rfl rfl ((hρ 5 (lmem rfl)).trans h5)⟩) rfl rfl
      (ffc (d := 43) (v := m_0) (hd_v rfl fun ρ hρ => ⟨rfl, opv_move rfl rfl ((hρ 0 (lmem rfl)).trans h0)⟩) rfl rfl
      (ffc (d := 44) (v := m_0) (hd_v rfl fun ρ hρ => ⟨rfl, ov_nck rfl rfl ((hρ 43 (lmem rfl)).trans rfl) hp97⟩) rfl rfl
      (ffc (d := 45) (v := p98) (hd_v rfl fun ρ hρ => ⟨rfl, ov_fldA rfl rfl underlying77 rfl sz50 (by decide) ((hρ 44 (lmem rfl)).trans rfl) hp101 rfl hv102⟩) rfl rfl
      (ffc (d := 46) (v := x106) (hd_v rfl fun ρ hρ => ⟨rfl, ov_ldV rfl underlying50 rfl rfl ((hρ 45 (lmem rfl)).trans rfl) hp105 hg107⟩) rfl rfl
      (ffc (d := 47) (v := .int .u64 x41) (hd_v rfl fun ρ hρ => ⟨rfl, opv_move rfl rfl ((hρ 4 (lmem rfl)).trans h4)⟩) rfl rfl
      ffn)))))))))) ?_
    refine lt_call (dt := some 42) rfl rfl (fun ρ hρ => ⟨rfl, opc_of rfl rfl is19 (ma_cons ((hρ 40 (lmem rfl)).trans rfl) (ma_cons ((hρ 41 (lmem rfl)).trans rfl) rfl))⟩) H (fun _ _ h _ => ⟨rfl, h⟩) fun r108 aw109 H => ?_
    obtain ⟨hg107, H⟩ := H
    replace hg107 := hg107 _ _ hp105
    refine lt_next (l := [6, 7, 8, 9, 10]) (hv := []) rfl rfl (pv_nil _)
      (ffc (d := 43) (v := m_0) (hd_v rfl fun ρ hρ => ⟨rfl, opv_move rfl rfl ((hρ 0 (lmem rfl)).trans h0)⟩) rfl rfl
      (ffc (d := 44) (v := m_0) (hd_v rfl fun ρ hρ => ⟨rfl, ov_nck rfl rfl ((hρ 43 (lmem rfl)).trans rfl) hp97⟩) rfl rfl
      (ffc (d := 45) (v := p98) (hd_v rfl fun ρ hρ => ⟨rfl, ov_fldA rfl rfl underlying77 rfl sz50 (by decide) ((hρ 44 (lmem rfl)).trans rfl) hp101 rfl hv102⟩) rfl rfl
      (ffc (d := 46) (v := x106) (hd_v rfl fun ρ hρ => ⟨rfl, ov_ldV rfl underlying50 rfl rfl ((hρ 45 (lmem rfl)).trans rfl) hp105 hg107⟩) rfl rfl
      (ffc (d := 47) (v := .int .u64 x41) (hd_v rfl fun ρ hρ => ⟨rfl, opv_move rfl rfl ((hρ 4 (lmem rfl)).trans h4)⟩) rfl rfl
      ffn))))) ?_
    refine lt_call (dt := some 48) rfl rfl (fun ρ hρ => ⟨rfl, opc_of rfl rfl is19 (ma_cons ((hρ 46 (lmem rfl)).trans rfl) (ma_cons ((hρ 47 (lmem rfl)).trans rfl) rfl))⟩) H (fun _ _ h _ => ⟨rfl, h⟩) fun r110 aw111 H => ?_
    refine lt_next (l := [12, 13]) (hv := [(12, Value.string r108), (13, Value.string r110)]) rfl rfl (pv_cons rfl (pv_cons rfl (pv_nil _)))
      (ffc (d := 6) (v := .string r108) (hd_v rfl fun ρ hρ => ⟨rfl, opv_assign rfl rfl ((hρ 42 (lmem rfl)).trans rfl)⟩) rfl rfl
      (ffc (d := 7) (v := .string r110) (hd_v rfl fun ρ hρ => ⟨rfl, opv_assign rfl rfl ((hρ 48 (lmem rfl)).trans rfl)⟩) rfl rfl
      ffn)) ?_
    refine lt_end ?_
    refine ago_seqE E74_11 ?_
    refine ago_seqE E74_12 ?_
    refine ago_cut (fun ρ => ρ 0 = m_0 ∧ ρ 6 = .string r108 ∧ ρ 7 = .string r110 ∧ True) ⟨h0, rfl, rfl, trivial⟩ (fun ρ ⟨h0, h6, h7, _⟩ => ?_)
    refine ago_regE E74_13 (l := [0, 1, 2, 3, 4, 5]) rfl ?_
    refine lk (dt := some 49) R74_4_N rfl rfl rfl (opv_move rfl rfl h6) ?_
    refine lk (dt := some 50) R74_4_N rfl rfl rfl (opv_lenS rfl rfl rfl underlying9 rfl) ?_
    refine lk (dt := some 51) R74_4_N rfl rfl rfl (opv_move rfl rfl h7) ?_
    refine lk (dt := some 52) R74_4_N rfl rfl rfl (opv_lenS rfl rfl rfl underlying9 rfl) ?_
    refine lk (dt := some 53) R74_4_N rfl rfl rfl (opv_add rfl rfl rfl rfl rfl) ?_
    refine lk (dt := some 54) R74_4_N rfl rfl rfl (opv_gt rfl rfl rfl rfl rfl) ?_
    refine aops_nil ?_
    refine ago_condE  E74_14 rfl rfl (fun hb112 => ?_) (fun hb112 => ?_)
    · replace H := cnd_t H hb112
      refine ago_regE E74_15 (l := [0, 1, 2]) rfl ?_
      refine lk (dt := some 55) R74_5_N rfl rfl rfl (ov_bld (r := [.string (⟨#[108, 111, 110, 103]⟩ : ByteArray)]) rfl rfl bo116 (mp_cons rfl rfl) (fillP rfl rfl rfl rfl (fillN rfl))) ?_
      refine lk (dt := some 56) R74_5_N rfl rfl rfl (opv_mkIface rfl rfl underlying116 rfl rfl) ?_
      exact aops_panic R74_5_N rfl rfl (opp_panic rfl rfl rfl) ⟨rfl, H⟩
    · replace H := cnd_f H hb112
      refine ago_skipE E74_16 ?_
      refine ago_seqE E74_17 ?_
      refine ago_regE E74_18 (l := [0, 1, 2, 3, 4]) rfl ?_
      refine lk (dt := some 57) R74_6_N rfl rfl rfl (opv_move rfl rfl h0) ?_
      refine lk (dt := some 58) R74_6_N rfl rfl rfl (opv_move rfl rfl h6) ?_
      refine lk (dt := some 59) R74_6_N rfl rfl rfl (opv_move rfl rfl h7) ?_
      obtain ⟨hz113, H⟩ := H
      refine lk (dt := some 60) R74_6_N rfl rfl rfl (opv_cat rfl rfl rfl rfl rfl hz113) ?_
      refine lk_call (dt := some 61) R74_6_N rfl rfl rfl (opc_of rfl rfl is69 (ma_cons rfl (ma_cons rfl rfl))) H (fun _ _ h => ⟨rfl, h⟩) fun r114 aw115 H => ?_
      refine aops_nil ?_
      refine ago_seqE E74_19 ?_
      refine ago_regE E74_20 (l := [0, 1, 2]) rfl ?_
      refine lk (dt := some 62) R74_7_N rfl rfl rfl (opv_move rfl rfl h0) ?_
      refine lk_call (dt := some 63) R74_7_N rfl rfl rfl (opc_of rfl rfl is37 (ma_cons rfl rfl)) H (fun _ _ h => ⟨rfl, h⟩) fun r116 aw117 H => ?_
      refine lk (dt := some 8) R74_7_N rfl rfl rfl (opv_assign rfl rfl rfl) ?_
      refine aops_nil ?_
      refine ago_seqE E74_21 ?_
      refine ago_cut (fun ρ => ρ 0 = m_0 ∧ ρ 8 = .int .u64 r116 ∧ True) ⟨h0, rfl, trivial⟩ (fun ρ ⟨h0, h8, _⟩ => ?_)
      obtain ⟨hp118, H⟩ := H
      obtain ⟨b120, i121, p119, hp122, hv123, H⟩ := H
      obtain ⟨b124, i125, x127, hp126, hg128, H⟩ := H
      obtain ⟨hp129, H⟩ := H
      obtain ⟨b131, i132, p130, hp133, hv134, H⟩ := H
      obtain ⟨b135, i136, x138, hp137, hg139, H⟩ := H
      obtain ⟨q141, l142, c143, n140, hv144, hn145, H⟩ := H
      obtain ⟨v146, hq147, H⟩ := H
      obtain ⟨hp148, H⟩ := H
      obtain ⟨b150, i151, p149, hp152, hv153, H⟩ := H
      refine ago_drawH (p := [0, 1, 2, 3, 4, 5, 6, 7, 8, 9, 10, 11, 12, 13]) (tl := [(14, [], [])]) (hv := [(0, m_0), (1, m_0), (2, m_0), (3, p119), (4, x127), (5, m_0), (6, m_0), (7, p130), (8, x138), (9, Value.int .i64 n140), (10, Value.int .i64 (IntKind.i64.wrap (n140 - 2))), (11, v146), (12, m_0), (13, p149)]) E74_22 mixed R74_8_N R74_8_O rfl (pv_cons rfl (pv_cons rfl (pv_cons rfl (pv_cons rfl (pv_cons rfl (pv_cons rfl (pv_cons rfl (pv_cons rfl (pv_cons rfl (pv_cons rfl (pv_cons rfl (pv_cons rfl (pv_cons rfl (pv_cons rfl (pv_nil _)))))))))))))))
        (ffc (d := 64) (v := m_0) (hd_v rfl fun ρ hρ => ⟨rfl, opv_move rfl rfl ((hρ 0 (lmem rfl)).trans h0)⟩) rfl rfl
        (ffc (d := 65) (v := m_0) (hd_v rfl fun ρ hρ => ⟨rfl, opv_move rfl rfl ((hρ 0 (lmem rfl)).trans h0)⟩) rfl rfl
        (ffc (d := 66) (v := m_0) (hd_v rfl fun ρ hρ => ⟨rfl, ov_nck rfl rfl ((hρ 65 (lmem rfl)).trans rfl) hp118⟩) rfl rfl
        (ffc (d := 67) (v := p119) (hd_v rfl fun ρ hρ => ⟨rfl, ov_fldA rfl rfl underlying77 rfl sz62 (by decide) ((hρ 66 (lmem rfl)).trans rfl) hp122 rfl hv123⟩) rfl rfl
        (ffc (d := 68) (v := x127) (hd_v rfl fun ρ hρ => ⟨rfl, ov_ldV rfl underlying62 rfl rfl ((hρ 67 (lmem rfl)).trans rfl) hp126 hg128⟩) rfl rfl
        (ffc (d := 69) (v := m_0) (hd_v rfl fun ρ hρ => ⟨rfl, opv_move rfl rfl ((hρ 0 (lmem rfl)).trans h0)⟩) rfl rfl
        (ffc (d := 70) (v := m_0) (hd_v rfl fun ρ hρ => ⟨rfl, ov_nck rfl rfl ((hρ 69 (lmem rfl)).trans rfl) hp129⟩) rfl rfl
        (ffc (d := 71) (v := p130) (hd_v rfl fun ρ hρ => ⟨rfl, ov_fldA rfl rfl underlying77 rfl sz62 (by decide) ((hρ 70 (lmem rfl)).trans rfl) hp133 rfl hv134⟩) rfl rfl
        (ffc (d := 72) (v := x138) (hd_v rfl fun ρ hρ => ⟨rfl, ov_ldV rfl underlying62 rfl rfl ((hρ 71 (lmem rfl)).trans rfl) hp137 hg139⟩) rfl rfl
        (ffc (d := 73) (v := .int .i64 n140) (hd_v rfl fun ρ hρ => ⟨rfl, ov_len rfl rfl rfl underlying62 ((hρ 72 (lmem rfl)).trans rfl) hv144 hn145⟩) rfl rfl
        (ffc (d := 74) (v := .int .i64 (IntKind.i64.wrap (n140 - 2))) (hd_v rfl fun ρ hρ => ⟨rfl, opv_sub rfl rfl rfl ((hρ 73 (lmem rfl)).trans rfl) rfl⟩) rfl rfl
        (ffc (d := 75) (v := v146) (hd_v rfl fun ρ hρ => ⟨rfl, ov_cutV rfl rfl underlying62 sz26 ((hρ 68 (lmem rfl)).trans rfl) (bndN _ _ _) (bndS ((hρ 74 (lmem rfl)).trans rfl)) hq147⟩) rfl rfl
        (ffc (d := 76) (v := m_0) (hd_v rfl fun ρ hρ => ⟨rfl, ov_nck rfl rfl ((hρ 64 (lmem rfl)).trans rfl) hp148⟩) rfl rfl
        (ffc (d := 77) (v := p149) (hd_v rfl fun ρ hρ => ⟨rfl, ov_fldA rfl rfl underlying77 rfl sz62 (by decide) ((hρ 76 (lmem rfl)).trans rfl) hp152 rfl hv153⟩) rfl rfl
        ffn)))))))))))))) ?_
      obtain ⟨b155, i156, aw154, hp157, hw158, ho159, ha160, H⟩ := H
      refine lt_val (dt := none) (v := undef) rfl rfl (fun ρ hρ => ⟨rfl, ov_st rfl rfl rfl ((hρ 77 (lmem rfl)).trans rfl) ((hρ 75 (lmem rfl)).trans rfl) (cells_all ho159) sz62 hp157 hw158 ho159 ha160⟩) ?_
      refine lt_next (l := []) (hv := []) rfl rfl (pv_nil _)
        ffn ?_
      refine lt_end ?_
      refine ago_seqE E74_23 ?_
      refine ago_cut (fun ρ => ρ 0 = m_0 ∧ ρ 8 = .int .u64 r116 ∧ True) ⟨h0, h8, trivial⟩ (fun ρ ⟨h0, h8, _⟩ => ?_)
      refine ago_regE E74_24 (l := [0, 1, 2]) rfl ?_
      refine lk (dt := some 78) R74_9_N rfl rfl rfl (opv_move rfl rfl h0) ?_
      refine lk (dt := some 79) R74_9_N rfl rfl rfl (opv_move rfl rfl h8) ?_
      refine lk_call (dt := some 80) R74_9_N rfl rfl rfl (opc_of rfl rfl is34 (ma_cons rfl (ma_cons rfl rfl))) H (fun _ _ h => ⟨rfl, h⟩) fun r161 aw162 H => ?_
      refine aops_nil ?_
      exact ago_retE E74_25 (r := ()) (ares_0 rfl ) rfl H
  · replace H := cnd_f H hb85
    refine ago_seqE E74_26 ?_
    refine ago_regE E74_27 (l := [0, 1]) rfl ?_
    refine lk (dt := some 82) R74_10_N rfl rfl rfl (opv_eqI rfl rfl rfl rfl rfl) ?_
    refine lk (dt := some 81) R74_10_N rfl rfl rfl (opv_assign rfl rfl rfl) ?_
    refine aops_nil ?_
    refine ago_condE  E74_28 rfl rfl (fun hb163 => ?_) (fun hb163 => ?_)
    · replace H := cnd_t H hb163
      refine ago_seqE E74_29 ?_
      refine ago_regE E74_30 (l := [0, 1, 2, 3, 4, 5, 6]) rfl ?_
      refine lk (dt := some 83) R74_11_N rfl rfl rfl (opv_move rfl rfl h0) ?_
      obtain ⟨hp164, H⟩ := H
      refine lk (dt := some 84) R74_11_N rfl rfl rfl (ov_nck rfl rfl rfl hp164) ?_
      obtain ⟨b166, i167, p165, hp168, hv169, H⟩ := H
      refine lk (dt := some 85) R74_11_N rfl rfl rfl (ov_fldA rfl rfl underlying77 rfl sz50 (by decide) rfl hp168 rfl hv169) ?_
      obtain ⟨b170, i171, x173, hp172, hg174, H⟩ := H
      refine lk (dt := some 86) R74_11_N rfl rfl rfl (ov_ldV rfl underlying50 rfl rfl rfl hp172 hg174) ?_
      refine lk (dt := some 87) R74_11_N rfl rfl rfl (opv_move rfl rfl h5) ?_
      refine lk (dt := some 88) R74_11_N rfl rfl rfl (opv_move rfl rfl h4) ?_
      refine lk_call (dt := some 89) R74_11_N rfl rfl rfl (opc_of rfl rfl is83 (ma_cons rfl (ma_cons rfl (ma_cons rfl (ma_cons rfl rfl))))) H (fun _ _ h => ⟨rfl, h⟩) fun r175 aw176 H => ?_
      refine aops_nil ?_
      refine ago_seqE E74_31 ?_
      refine ago_cut (fun ρ => ρ 0 = m_0 ∧ True) ⟨h0, trivial⟩ (fun ρ ⟨h0, _⟩ => ?_)
      obtain ⟨hp177, H⟩ := H
      obtain ⟨b179, i180, p178, hp181, hv182, H⟩ := H
      obtain ⟨b183, i184, x186, hp185, hg187, H⟩ := H
      obtain ⟨hp188, H⟩ := H
      obtain ⟨b190, i191, p189, hp192, hv193, H⟩ := H
      obtain ⟨b194, i195, x197, hp196, hg198, H⟩ := H
      obtain ⟨q200, l201, c202, n199, hv203, hn204, H⟩ := H
      obtain ⟨v205, hq206, H⟩ := H
      obtain ⟨hp207, H⟩ := H
      obtain ⟨b209, i210, p208, hp211, hv212, H⟩ := H
      refine ago_drawH (p := [0, 1, 2, 3, 4, 5, 6, 7, 8, 9, 10, 11, 12, 13]) (tl := [(14, [], [])]) (hv := [(0, m_0), (1, m_0), (2, m_0), (3, p178), (4, x186), (5, m_0), (6, m_0), (7, p189), (8, x197), (9, Value.int .i64 n199), (10, Value.int .i64 (IntKind.i64.wrap (n199 - 2))), (11, v205), (12, m_0), (13, p208)]) E74_32 mixed R74_12_N R74_12_O rfl (pv_cons rfl (pv_cons rfl (pv_cons rfl (pv_cons rfl (pv_cons rfl (pv_cons rfl (pv_cons rfl (pv_cons rfl (pv_cons rfl (pv_cons rfl (pv_cons rfl (pv_cons rfl (pv_cons rfl (pv_cons rfl (pv_nil _)))))))))))))))
        (ffc (d := 90) (v := m_0) (hd_v rfl fun ρ hρ => ⟨rfl, opv_move rfl rfl ((hρ 0 (lmem rfl)).trans h0)⟩) rfl rfl
        (ffc (d := 91) (v := m_0) (hd_v rfl fun ρ hρ => ⟨rfl, opv_move rfl rfl ((hρ 0 (lmem rfl)).trans h0)⟩) rfl rfl
        (ffc (d := 92) (v := m_0) (hd_v rfl fun ρ hρ => ⟨rfl, ov_nck rfl rfl ((hρ 91 (lmem rfl)).trans rfl) hp177⟩) rfl rfl
        (ffc (d := 93) (v := p178) (hd_v rfl fun ρ hρ => ⟨rfl, ov_fldA rfl rfl underlying77 rfl sz62 (by decide) ((hρ 92 (lmem rfl)).trans rfl) hp181 rfl hv182⟩) rfl rfl
        (ffc (d := 94) (v := x186) (hd_v rfl fun ρ hρ => ⟨rfl, ov_ldV rfl underlying62 rfl rfl ((hρ 93 (lmem rfl)).trans rfl) hp185 hg187⟩) rfl rfl
        (ffc (d := 95) (v := m_0) (hd_v rfl fun ρ hρ => ⟨rfl, opv_move rfl rfl ((hρ 0 (lmem rfl)).trans h0)⟩) rfl rfl
        (ffc (d := 96) (v := m_0) (hd_v rfl fun ρ hρ => ⟨rfl, ov_nck rfl rfl ((hρ 95 (lmem rfl)).trans rfl) hp188⟩) rfl rfl
        (ffc (d := 97) (v := p189) (hd_v rfl fun ρ hρ => ⟨rfl, ov_fldA rfl rfl underlying77 rfl sz62 (by decide) ((hρ 96 (lmem rfl)).trans rfl) hp192 rfl hv193⟩) rfl rfl
        (ffc (d := 98) (v := x197) (hd_v rfl fun ρ hρ => ⟨rfl, ov_ldV rfl underlying62 rfl rfl ((hρ 97 (lmem rfl)).trans rfl) hp196 hg198⟩) rfl rfl
        (ffc (d := 99) (v := .int .i64 n199) (hd_v rfl fun ρ hρ => ⟨rfl, ov_len rfl rfl rfl underlying62 ((hρ 98 (lmem rfl)).trans rfl) hv203 hn204⟩) rfl rfl
        (ffc (d := 100) (v := .int .i64 (IntKind.i64.wrap (n199 - 2))) (hd_v rfl fun ρ hρ => ⟨rfl, opv_sub rfl rfl rfl ((hρ 99 (lmem rfl)).trans rfl) rfl⟩) rfl rfl
        (ffc (d := 101) (v := v205) (hd_v rfl fun ρ hρ => ⟨rfl, ov_cutV rfl rfl underlying62 sz26 ((hρ 94 (lmem rfl)).trans rfl) (bndN _ _ _) (bndS ((hρ 100 (lmem rfl)).trans rfl)) hq206⟩) rfl rfl
        (ffc (d := 102) (v := m_0) (hd_v rfl fun ρ hρ => ⟨rfl, ov_nck rfl rfl ((hρ 90 (lmem rfl)).trans rfl) hp207⟩) rfl rfl
        (ffc (d := 103) (v := p208) (hd_v rfl fun ρ hρ => ⟨rfl, ov_fldA rfl rfl underlying77 rfl sz62 (by decide) ((hρ 102 (lmem rfl)).trans rfl) hp211 rfl hv212⟩) rfl rfl
        ffn)))))))))))))) ?_
      obtain ⟨b214, i215, aw213, hp216, hw217, ho218, ha219, H⟩ := H
      refine lt_val (dt := none) (v := undef) rfl rfl (fun ρ hρ => ⟨rfl, ov_st rfl rfl rfl ((hρ 103 (lmem rfl)).trans rfl) ((hρ 101 (lmem rfl)).trans rfl) (cells_all ho218) sz62 hp216 hw217 ho218 ha219⟩) ?_
      refine lt_next (l := []) (hv := []) rfl rfl (pv_nil _)
        ffn ?_
      refine lt_end ?_
      refine ago_seqE E74_33 ?_
      refine ago_cut (fun ρ => ρ 0 = m_0 ∧ True) ⟨h0, trivial⟩ (fun ρ ⟨h0, _⟩ => ?_)
      refine ago_regE E74_34 (l := [0, 1, 2]) rfl ?_
      refine lk (dt := some 104) R74_13_N rfl rfl rfl (opv_move rfl rfl h0) ?_
      refine lk_call (dt := some 105) R74_13_N rfl rfl rfl (opc_of rfl rfl is14 (ma_cons rfl rfl)) H (fun _ _ h => ⟨rfl, h⟩) fun r220 aw221 H => ?_
      refine lk_call (dt := some 106) R74_13_N rfl rfl rfl (opc_of rfl rfl is34 (ma_cons rfl (ma_cons rfl rfl))) H (fun _ _ h => ⟨rfl, h⟩) fun r222 aw223 H => ?_
      refine aops_nil ?_
      exact ago_retE E74_35 (r := ()) (ares_0 rfl ) rfl H
    · replace H := cnd_f H hb163
      refine ago_skipE E74_36 ?_
      refine ago_inBlock ?_
      refine ago_seqE E74_37 ?_
      refine ago_regE E74_38 (l := [0, 1, 2, 3, 4, 5]) rfl ?_
      refine lk (dt := some 107) R74_14_N rfl rfl rfl (opv_move rfl rfl h0) ?_
      refine lk (dt := some 108) R74_14_N rfl rfl rfl (opv_move rfl rfl h1) ?_
      refine lk (dt := some 109) R74_14_N rfl rfl rfl (opv_move rfl rfl h5) ?_
      refine lk (dt := some 110) R74_14_N rfl rfl rfl (opv_move rfl rfl h4) ?_
      refine lk_call (dt := some 111) R74_14_N rfl rfl rfl (opc_of rfl rfl is84 (ma_cons rfl (ma_cons rfl (ma_cons rfl (ma_cons rfl rfl))))) H (fun _ _ h => ⟨rfl, h⟩) fun r224 aw225 H => ?_
      refine lk (dt := some 9) R74_14_N rfl rfl rfl (opv_assign rfl rfl rfl) ?_
      refine aops_nil ?_
      refine ago_seqE E74_39 ?_
      obtain ⟨hp226, H⟩ := H
      obtain ⟨b228, i229, p227, hp230, hv231, H⟩ := H
      obtain ⟨b232, i233, x235, hp234, hg236, H⟩ := H
      obtain ⟨hp237, H⟩ := H
      obtain ⟨b239, i240, p238, hp241, hv242, H⟩ := H
      obtain ⟨b243, i244, x246, hp245, hg247, H⟩ := H
      obtain ⟨q249, l250, c251, n248, hv252, hn253, H⟩ := H
      obtain ⟨v254, hq255, H⟩ := H
      obtain ⟨hp256, H⟩ := H
      obtain ⟨b258, i259, p257, hp260, hv261, H⟩ := H
      refine ago_drawH (p := [0, 1, 2, 3, 4, 5, 6, 7, 8, 9, 10, 11, 12, 13]) (tl := [(14, [], [])]) (hv := [(0, m_0), (1, m_0), (2, m_0), (3, p227), (4, x235), (5, m_0), (6, m_0), (7, p238), (8, x246), (9, Value.int .i64 n248), (10, Value.int .i64 (IntKind.i64.wrap (n248 - 2))), (11, v254), (12, m_0), (13, p257)]) E74_40 mixed R74_15_N R74_15_O rfl (pv_cons rfl (pv_cons rfl (pv_cons rfl (pv_cons rfl (pv_cons rfl (pv_cons rfl (pv_cons rfl (pv_cons rfl (pv_cons rfl (pv_cons rfl (pv_cons rfl (pv_cons rfl (pv_cons rfl (pv_cons rfl (pv_nil _)))))))))))))))
        (ffc (d := 112) (v := m_0) (hd_v rfl fun ρ hρ => ⟨rfl, opv_move rfl rfl ((hρ 0 (lmem rfl)).trans h0)⟩) rfl rfl
        (ffc (d := 113) (v := m_0) (hd_v rfl fun ρ hρ => ⟨rfl, opv_move rfl rfl ((hρ 0 (lmem rfl)).trans h0)⟩) rfl rfl
        (ffc (d := 114) (v := m_0) (hd_v rfl fun ρ hρ => ⟨rfl, ov_nck rfl rfl ((hρ 113 (lmem rfl)).trans rfl) hp226⟩) rfl rfl
        (ffc (d := 115) (v := p227) (hd_v rfl fun ρ hρ => ⟨rfl, ov_fldA rfl rfl underlying77 rfl sz62 (by decide) ((hρ 114 (lmem rfl)).trans rfl) hp230 rfl hv231⟩) rfl rfl
        (ffc (d := 116) (v := x235) (hd_v rfl fun ρ hρ => ⟨rfl, ov_ldV rfl underlying62 rfl rfl ((hρ 115 (lmem rfl)).trans rfl) hp234 hg236⟩) rfl rfl
        (ffc (d := 117) (v := m_0) (hd_v rfl fun ρ hρ => ⟨rfl, opv_move rfl rfl ((hρ 0 (lmem rfl)).trans h0)⟩) rfl rfl
        (ffc (d := 118) (v := m_0) (hd_v rfl fun ρ hρ => ⟨rfl, ov_nck rfl rfl ((hρ 117 (lmem rfl)).trans rfl) hp237⟩) rfl rfl
        (ffc (d := 119) (v := p238) (hd_v rfl fun ρ hρ => ⟨rfl, ov_fldA rfl rfl underlying77 rfl sz62 (by decide) ((hρ 118 (lmem rfl)).trans rfl) hp241 rfl hv242⟩) rfl rfl
        (ffc (d := 120) (v := x246) (hd_v rfl fun ρ hρ => ⟨rfl, ov_ldV rfl underlying62 rfl rfl ((hρ 119 (lmem rfl)).trans rfl) hp245 hg247⟩) rfl rfl
        (ffc (d := 121) (v := .int .i64 n248) (hd_v rfl fun ρ hρ => ⟨rfl, ov_len rfl rfl rfl underlying62 ((hρ 120 (lmem rfl)).trans rfl) hv252 hn253⟩) rfl rfl
        (ffc (d := 122) (v := .int .i64 (IntKind.i64.wrap (n248 - 2))) (hd_v rfl fun ρ hρ => ⟨rfl, opv_sub rfl rfl rfl ((hρ 121 (lmem rfl)).trans rfl) rfl⟩) rfl rfl
        (ffc (d := 123) (v := v254) (hd_v rfl fun ρ hρ => ⟨rfl, ov_cutV rfl rfl underlying62 sz26 ((hρ 116 (lmem rfl)).trans rfl) (bndN _ _ _) (bndS ((hρ 122 (lmem rfl)).trans rfl)) hq255⟩) rfl rfl
        (ffc (d := 124) (v := m_0) (hd_v rfl fun ρ hρ => ⟨rfl, ov_nck rfl rfl ((hρ 112 (lmem rfl)).trans rfl) hp256⟩) rfl rfl
        (ffc (d := 125) (v := p257) (hd_v rfl fun ρ hρ => ⟨rfl, ov_fldA rfl rfl underlying77 rfl sz62 (by decide) ((hρ 124 (lmem rfl)).trans rfl) hp260 rfl hv261⟩) rfl rfl
        ffn)))))))))))))) ?_
      obtain ⟨b263, i264, aw262, hp265, hw266, ho267, ha268, H⟩ := H
      refine lt_val (dt := none) (v := undef) rfl rfl (fun ρ hρ => ⟨rfl, ov_st rfl rfl rfl ((hρ 125 (lmem rfl)).trans rfl) ((hρ 123 (lmem rfl)).trans rfl) (cells_all ho267) sz62 hp265 hw266 ho267 ha268⟩) ?_
      refine lt_next (l := []) (hv := []) rfl rfl (pv_nil _)
        ffn ?_
      refine lt_end ?_
      refine ago_cut (fun ρ => ρ 0 = m_0 ∧ ρ 9 = .int .u64 r224 ∧ True) ⟨h0, rfl, trivial⟩ (fun ρ ⟨h0, h9, _⟩ => ?_)
      refine ago_regE E74_41 (l := [0, 1, 2]) rfl ?_
      refine lk (dt := some 126) R74_16_N rfl rfl rfl (opv_move rfl rfl h0) ?_
      refine lk (dt := some 127) R74_16_N rfl rfl rfl (opv_move rfl rfl h9) ?_
      refine lk_call (dt := some 128) R74_16_N rfl rfl rfl (opc_of rfl rfl is34 (ma_cons rfl (ma_cons rfl rfl))) H (fun _ _ h => ⟨rfl, h⟩) fun r269 aw270 H => ?_
      refine aops_nil ?_
      exact ago_nilR (r := ()) (ares_0 rfl ) rfl H
theorem F74_ok {Q : Unit → AW → Prop} {E : List PanicEntry → AW → Prop} (m_0 : Value) (sign_1 : Int) (aw : AW) (H : S74_0 Q E m_0 sign_1 aw) : CallP prog 74 [m_0, .int .i64 sign_1] aw sh74 Q E :=
  callP_of func74 C74_is rfl (Nat.le_of_ble_eq_true rfl) (S74_0_ok Q E _ m_0 sign_1 aw rfl rfl H)
def C81_0 : Code := bodyOf f81
theorem C81_is : f81.body = some C81_0 := by kernel_rfl
def C81_1 : Code := cl C81_0
def C81_2 : Code := cl C81_1
def R81_0 : Array Oper := regOps C81_2
def C81_3 : Code := cr C81_1
def C81_4 : Code := cl C81_3
def R81_1 : Array Oper := regOps C81_4
def C81_5 : Code := cr C81_3
def C81_6 : Code := cr C81_0
def R81_2 : Array Oper := regOps C81_6
theorem R81_0_N : dstsOk 16 R81_0 = true := by decide +kernel
theorem E81_2 : C81_2 = .region 0 R81_0 false := rfl
theorem R81_1_N : dstsOk 16 R81_1 = true := by decide +kernel
theorem E81_4 : C81_4 = .region 1 R81_1 false := rfl
theorem E81_5 : C81_5 = .skip := rfl
theorem E81_3 : C81_3 = .cond (.tmp 6) C81_4 C81_5 := rfl
theorem E81_1 : C81_1 = .seq C81_2 C81_3 := rfl
theorem R81_2_N : dstsOk 16 R81_2 = true := by decide +kernel
theorem E81_6 : C81_6 = .region 2 R81_2 false := rfl
theorem E81_0 : C81_0 = .seq C81_1 C81_6 := rfl
def S81_0 (Q : Unit → AW → Prop) (E : List PanicEntry → AW → Prop)  (m_0 : Value) (aw : AW) : Prop :=
  nck m_0 (fldA m_0 6 fun p2 =>
  ldI .i64 aw p2 fun x10 =>
  cnd (decide (x10 = 0)) (E [⟨(.iface 114 (.agg #[.int .i64 10])), false, false⟩] aw) (nck m_0 (fldA m_0 6 fun p14 =>
  ldI .i64 aw p14 fun x22 =>
  nck m_0 (fldA m_0 6 fun p25 =>
  st aw p25 [.int .i64 (IntKind.i64.wrap (x22 - 1))] fun aw30 =>
  Q () aw30))))
theorem S81_0_ok (Q : Unit → AW → Prop) (E : List PanicEntry → AW → Prop)  (ρ : Env) (m_0 : Value) (aw : AW) (h0 : ρ 0 = m_0) (H : S81_0 Q E  m_0 aw) :
    AGo prog 16 [.code C81_0] ρ [] aw (RR prog f81 16 sh81 Q E) := by
  unfold S81_0 at H
  refine ago_seqE E81_0 ?_
  refine ago_seqE E81_1 ?_
  refine ago_regE E81_2 (l := [0, 1, 2, 3, 4]) rfl ?_
  refine lk (dt := some 2) R81_0_N rfl rfl rfl (opv_move rfl rfl h0) ?_
  obtain ⟨hp1, H⟩ := H
  refine lk (dt := some 3) R81_0_N rfl rfl rfl (ov_nck rfl rfl rfl hp1) ?_
  obtain ⟨b3, i4, p2, hp5, hv6, H⟩ := H
  refine lk (dt := some 4) R81_0_N rfl rfl rfl (ov_fldA rfl rfl underlying77 rfl sz3 (by decide) rfl hp5 rfl hv6) ?_
  obtain ⟨b7, i8, x10, hp9, hg11, H⟩ := H
  refine lk (dt := some 5) R81_0_N rfl rfl rfl (ov_ldI rfl underlying3 rfl rfl hp9 hg11) ?_
  refine lk (dt := some 6) R81_0_N rfl rfl rfl (opv_eqI rfl rfl rfl rfl rfl) ?_
  refine aops_nil ?_
  refine ago_condE  E81_3 rfl rfl (fun hb12 => ?_) (fun hb12 => ?_)
  · replace H := cnd_t H hb12
    refine ago_regE E81_4 (l := [0, 1, 2]) rfl ?_
    refine lk (dt := some 7) R81_1_N rfl rfl rfl (ov_bld (r := [.int .i64 10]) rfl rfl bo114 (mp_cons rfl rfl) (fillP rfl rfl rfl rfl (fillN rfl))) ?_
    refine lk (dt := some 8) R81_1_N rfl rfl rfl (opv_mkIface rfl rfl underlying114 rfl rfl) ?_
    exact aops_panic R81_1_N rfl rfl (opp_panic rfl rfl rfl) ⟨rfl, H⟩
  · replace H := cnd_f H hb12
    refine ago_skipE E81_5 ?_
    refine ago_regE E81_6 (l := [0, 1, 2, 3, 4, 5, 6, 7]) rfl ?_
    refine lk (dt := some 9) R81_2_N rfl rfl rfl (opv_move rfl rfl h0) ?_
    obtain ⟨hp13, H⟩ := H
    refine lk (dt := some 10) R81_2_N rfl rfl rfl (ov_nck rfl rfl rfl hp13) ?_
    obtain ⟨b15, i16, p14, hp17, hv18, H⟩ := H
    refine lk (dt := some 11) R81_2_N rfl rfl rfl (ov_fldA rfl rfl underlying77 rfl sz3 (by decide) rfl hp17 rfl hv18) ?_
    obtain ⟨b19, i20, x22, hp21, hg23, H⟩ := H
    refine lk (dt := some 12) R81_2_N rfl rfl rfl (ov_ldI rfl underlying3 rfl rfl hp21 hg23) ?_
    refine lk (dt := some 13) R81_2_N rfl rfl rfl (opv_sub rfl rfl rfl rfl rfl) ?_
    obtain ⟨hp24, H⟩ := H
    refine lk (dt := some 14) R81_2_N rfl rfl rfl (ov_nck rfl rfl rfl hp24) ?_
    obtain ⟨b26, i27, p25, hp28, hv29, H⟩ := H
    refine lk (dt := some 15) R81_2_N rfl rfl rfl (ov_fldA rfl rfl underlying77 rfl sz3 (by decide) rfl hp28 rfl hv29) ?_
    obtain ⟨b31, i32, aw30, hp33, hw34, ho35, ha36, H⟩ := H
    refine lk (dt := none) R81_2_N rfl rfl rfl (ov_st rfl rfl rfl rfl rfl rfl sz3 hp33 hw34 ho35 ha36) ?_
    refine aops_nil ?_
    exact ago_nilR (r := ()) (ares_0 rfl ) rfl H
theorem F81_ok {Q : Unit → AW → Prop} {E : List PanicEntry → AW → Prop} (m_0 : Value) (aw : AW) (H : S81_0 Q E m_0 aw) : CallP prog 81 [m_0] aw sh81 Q E :=
  callP_of func81 C81_is rfl (Nat.le_of_ble_eq_true rfl) (S81_0_ok Q E _ m_0 aw rfl H)
def C84_0 : Code := bodyOf f84
theorem C84_is : f84.body = some C84_0 := by kernel_rfl
def C84_1 : Code := cl C84_0
def R84_0 : Array Oper := regOps C84_1
def C84_2 : Code := cr C84_0
def C84_3 : Code := cl C84_2
def R84_1 : Array Oper := regOps C84_3
def C84_4 : Code := cr C84_2
def C84_5 : Code := cl C84_4
def C84_6 : Code := cl C84_5
def R84_2 : Array Oper := regOps C84_6
def C84_7 : Code := cr C84_5
def C84_8 : Code := cl C84_7
def C84_9 : Code := cl C84_8
def R84_3 : Array Oper := regOps C84_9
def C84_10 : Code := cr C84_8
def C84_11 : Code := cl C84_10
def C84_12 : Code := cl C84_11
def R84_4 : Array Oper := regOps C84_12
def C84_13 : Code := cr C84_11
def C84_14 : Code := cr C84_10
def C84_15 : Code := cl C84_14
def R84_5 : Array Oper := regOps C84_15
def C84_16 : Code := cr C84_14
def C84_17 : Code := cl C84_16
def C84_18 : Code := cl C84_17
def R84_6 : Array Oper := regOps C84_18
def C84_19 : Code := cr C84_17
def C84_20 : Code := cr C84_16
def C84_21 : Code := cl C84_20
def R84_7 : Array Oper := regOps C84_21
def C84_22 : Code := cr C84_20
def C84_23 : Code := cl C84_22
def C84_24 : Code := cl C84_23
def R84_8 : Array Oper := regOps C84_24
def C84_25 : Code := cr C84_23
def C84_26 : Code := cr C84_22
def C84_27 : Code := cl C84_26
def C84_28 : Code := cl C84_27
def R84_9 : Array Oper := regOps C84_28
def C84_29 : Code := cr C84_27
def C84_30 : Code := cl C84_29
def C84_31 : Code := cr C84_29
def R84_10 : Array Oper := regOps C84_31
def C84_32 : Code := cr C84_26
def C84_33 : Code := cl C84_32
def C84_34 : Code := cl C84_33
def C84_35 : Code := cl C84_34
def R84_11 : Array Oper := regOps C84_35
def C84_36 : Code := cr C84_34
def C84_37 : Code := cl C84_36
def R84_12 : Array Oper := regOps C84_37
def C84_38 : Code := cr C84_36
def C84_39 : Code := cr C84_33
def C84_40 : Code := cl C84_39
def C84_41 : Code := cl C84_40
def R84_13 : Array Oper := regOps C84_41
def C84_42 : Code := cr C84_40
def C84_43 : Code := cl C84_42
def C84_44 : Code := cl C84_43
def R84_14 : Array Oper := regOps C84_44
def C84_45 : Code := cr C84_43
def C84_46 : Code := cr C84_42
def C84_47 : Code := cr C84_39
def C84_48 : Code := cl C84_47
def R84_15 : Array Oper := regOps C84_48
def C84_49 : Code := cr C84_47
def C84_50 : Code := cr C84_32
def C84_51 : Code := cl C84_50
def R84_16 : Array Oper := regOps C84_51
def C84_52 : Code := cr C84_50
def C84_53 : Code := cl C84_52
def C84_54 : Code := cl C84_53
def R84_17 : Array Oper := regOps C84_54
def C84_55 : Code := cr C84_53
def C84_56 : Code := cr C84_52
def C84_57 : Code := cl C84_56
def R84_18 : Array Oper := regOps C84_57
def C84_58 : Code := cr C84_56
def C84_59 : Code := cl C84_58
def C84_60 : Code := cl C84_59
def R84_19 : Array Oper := regOps C84_60
def C84_61 : Code := cr C84_59
def C84_62 : Code := cr C84_58
def C84_63 : Code := cl C84_62
def R84_20 : Array Oper := regOps C84_63
def C84_64 : Code := cr C84_62
def C84_65 : Code := cl C84_64
def C84_66 : Code := cl C84_65
def R84_21 : Array Oper := regOps C84_66
def C84_67 : Code := cr C84_65
def C84_68 : Code := cr C84_64
def C84_69 : Code := cr C84_4
def C84_70 : Code := cl C84_69
def R84_22 : Array Oper := regOps C84_70
def C84_71 : Code := cr C84_69
theorem R84_0_N : dstsOk 76 R84_0 = true := by decide +kernel
theorem E84_1 : C84_1 = .region 0 R84_0 false := rfl
theorem R84_1_N : dstsOk 76 R84_1 = true := by decide +kernel
theorem E84_3 : C84_3 = .region 1 R84_1 false := rfl
theorem R84_2_N : dstsOk 76 R84_2 = true := by decide +kernel
theorem E84_6 : C84_6 = .region 2 R84_2 false := rfl
theorem R84_3_N : dstsOk 76 R84_3 = true := by decide +kernel
theorem E84_9 : C84_9 = .region 3 R84_3 false := rfl
theorem R84_4_N : dstsOk 76 R84_4 = true := by decide +kernel
theorem E84_12 : C84_12 = .region 4 R84_4 false := rfl
theorem E84_13 : C84_13 = .ret := rfl
theorem E84_11 : C84_11 = .seq C84_12 C84_13 := rfl
theorem R84_5_N : dstsOk 76 R84_5 = true := by decide +kernel
theorem E84_15 : C84_15 = .region 5 R84_5 false := rfl
theorem R84_6_N : dstsOk 76 R84_6 = true := by decide +kernel
theorem E84_18 : C84_18 = .region 6 R84_6 false := rfl
theorem E84_19 : C84_19 = .ret := rfl
theorem E84_17 : C84_17 = .seq C84_18 C84_19 := rfl
theorem R84_7_N : dstsOk 76 R84_7 = true := by decide +kernel
theorem E84_21 : C84_21 = .region 7 R84_7 false := rfl
theorem R84_8_N : dstsOk 76 R84_8 = true := by decide +kernel
theorem E84_24 : C84_24 = .region 8 R84_8 false := rfl
theorem E84_25 : C84_25 = .ret := rfl
theorem E84_23 : C84_23 = .seq C84_24 C84_25 := rfl
theorem R84_9_N : dstsOk 76 R84_9 = true := by decide +kernel
theorem E84_28 : C84_28 = .region 9 R84_9 false := rfl
theorem E84_30 : C84_30 = .skip := rfl
theorem R84_10_N : dstsOk 76 R84_10 = true := by decide +kernel
theorem E84_31 : C84_31 = .region 10 R84_10 false := rfl
theorem E84_29 : C84_29 = .cond (.tmp 34) C84_30 C84_31 := rfl
theorem E84_27 : C84_27 = .seq C84_28 C84_29 := rfl
theorem R84_11_N : dstsOk 76 R84_11 = true := by decide +kernel
theorem E84_35 : C84_35 = .region 11 R84_11 false := rfl
theorem R84_12_N : dstsOk 76 R84_12 = true := by decide +kernel
theorem E84_37 : C84_37 = .region 12 R84_12 false := rfl
theorem E84_38 : C84_38 = .skip := rfl
theorem E84_36 : C84_36 = .cond (.tmp 38) C84_37 C84_38 := rfl
theorem E84_34 : C84_34 = .seq C84_35 C84_36 := rfl
theorem R84_13_N : dstsOk 76 R84_13 = true := by decide +kernel
theorem E84_41 : C84_41 = .region 13 R84_13 false := rfl
theorem R84_14_N : dstsOk 76 R84_14 = true := by decide +kernel
theorem E84_44 : C84_44 = .region 14 R84_14 false := rfl
theorem E84_45 : C84_45 = .ret := rfl
theorem E84_43 : C84_43 = .seq C84_44 C84_45 := rfl
theorem E84_46 : C84_46 = .skip := rfl
theorem E84_42 : C84_42 = .cond (.tmp 42) C84_43 C84_46 := rfl
theorem E84_40 : C84_40 = .seq C84_41 C84_42 := rfl
theorem R84_15_N : dstsOk 76 R84_15 = true := by decide +kernel
theorem E84_48 : C84_48 = .region 15 R84_15 false := rfl
theorem E84_49 : C84_49 = .ret := rfl
theorem E84_47 : C84_47 = .seq C84_48 C84_49 := rfl
theorem E84_39 : C84_39 = .seq C84_40 C84_47 := rfl
theorem E84_33 : C84_33 = .seq C84_34 C84_39 := rfl
theorem R84_16_N : dstsOk 76 R84_16 = true := by decide +kernel
theorem E84_51 : C84_51 = .region 16 R84_16 false := rfl
theorem R84_17_N : dstsOk 76 R84_17 = true := by decide +kernel
theorem E84_54 : C84_54 = .region 17 R84_17 false := rfl
theorem E84_55 : C84_55 = .ret := rfl
theorem E84_53 : C84_53 = .seq C84_54 C84_55 := rfl
theorem R84_18_N : dstsOk 76 R84_18 = true := by decide +kernel
theorem E84_57 : C84_57 = .region 18 R84_18 false := rfl
theorem R84_19_N : dstsOk 76 R84_19 = true := by decide +kernel
theorem E84_60 : C84_60 = .region 19 R84_19 false := rfl
theorem E84_61 : C84_61 = .ret := rfl
theorem E84_59 : C84_59 = .seq C84_60 C84_61 := rfl
theorem R84_20_N : dstsOk 76 R84_20 = true := by decide +kernel
theorem E84_63 : C84_63 = .region 20 R84_20 false := rfl
theorem R84_21_N : dstsOk 76 R84_21 = true := by decide +kernel
theorem E84_66 : C84_66 = .region 21 R84_21 false := rfl
theorem E84_67 : C84_67 = .ret := rfl
theorem E84_65 : C84_65 = .seq C84_66 C84_67 := rfl
theorem E84_68 : C84_68 = .skip := rfl
theorem E84_64 : C84_64 = .cond (.tmp 66) C84_65 C84_68 := rfl
theorem E84_62 : C84_62 = .seq C84_63 C84_64 := rfl
theorem E84_58 : C84_58 = .cond (.tmp 58) C84_59 C84_62 := rfl
theorem E84_56 : C84_56 = .seq C84_57 C84_58 := rfl
theorem E84_52 : C84_52 = .cond (.tmp 51) C84_53 C84_56 := rfl
theorem E84_50 : C84_50 = .seq C84_51 C84_52 := rfl
theorem E84_32 : C84_32 = .cond (.tmp 34) C84_33 C84_50 := rfl
theorem E84_26 : C84_26 = .seq C84_27 C84_32 := rfl
theorem E84_22 : C84_22 = .cond (.tmp 28) C84_23 C84_26 := rfl
theorem E84_20 : C84_20 = .seq C84_21 C84_22 := rfl
theorem E84_16 : C84_16 = .cond (.tmp 22) C84_17 C84_20 := rfl
theorem E84_14 : C84_14 = .seq C84_15 C84_16 := rfl
theorem E84_10 : C84_10 = .cond (.tmp 16) C84_11 C84_14 := rfl
theorem E84_8 : C84_8 = .seq C84_9 C84_10 := rfl
theorem E84_7 : C84_7 = .block 0 C84_8 := rfl
theorem E84_5 : C84_5 = .seq C84_6 C84_7 := rfl
theorem R84_22_N : dstsOk 76 R84_22 = true := by decide +kernel
theorem E84_70 : C84_70 = .region 22 R84_22 false := rfl
theorem E84_71 : C84_71 = .ret := rfl
theorem E84_69 : C84_69 = .seq C84_70 C84_71 := rfl
theorem E84_4 : C84_4 = .seq C84_5 C84_69 := rfl
theorem E84_2 : C84_2 = .seq C84_3 C84_4 := rfl
theorem E84_0 : C84_0 = .seq C84_1 C84_2 := rfl
def S84_1 (Q : Int → AW → Prop) (E : List PanicEntry → AW → Prop)  (m_0 : Value) (sign_1 : Int) (a_2 : Int) (b_3 : Int) (x_9 : Int) (y_10 : Int) (t_15 : Int) (t_34 : Bool) (aw : AW) : Prop :=
  cnd t_34 (cnd (decide (y_10 = 0)) (E [⟨(.iface 116 (.agg #[.string (⟨#[100, 105, 118]⟩ : ByteArray)])), false, false⟩] aw) (cnd (decide (sign_1 = 3)) (y_10 ≠ 0 ∧ CallP prog 14 [.int .i64 (IntKind.i64.wrap (Int.tdiv x_9 y_10))] aw sh14 (fun r5 aw6 =>
  Q r5 aw6) E) (y_10 ≠ 0 ∧ CallP prog 14 [.int .i64 (Int.tmod x_9 y_10)] aw sh14 (fun r8 aw9 =>
  Q r8 aw9) E))) (cnd (decide (t_15 = 5)) (CallP prog 90 [m_0, .int .u64 a_2, .int .u64 b_3] aw sh90 (fun r11 aw12 =>
  CallP prog 85 [.bool r11] aw12 sh85 (fun r13 aw14 =>
  Q r13 aw14) E) E) (cnd (decide (t_15 = 6)) (CallP prog 90 [m_0, .int .u64 a_2, .int .u64 b_3] aw sh90 (fun r16 aw17 =>
  CallP prog 85 [.bool (!r16)] aw17 sh85 (fun r18 aw19 =>
  Q r18 aw19) E) E) (cnd (decide (t_15 = 7)) (CallP prog 85 [.bool (decide (x_9 < y_10))] aw sh85 (fun r21 aw22 =>
  Q r21 aw22) E) (CallP prog 85 [.bool (decide (x_9 ≤ y_10))] aw sh85 (fun r23 aw24 =>
  Q r23 aw24) E))))
def S84_0 (Q : Int → AW → Prop) (E : List PanicEntry → AW → Prop)  (m_0 : Value) (sign_1 : Int) (a_2 : Int) (b_3 : Int) (aw : AW) : Prop :=
  CallP prog 73 [.int .u64 a_2] aw sh73 (fun r25 aw26 =>
  CallP prog 73 [.int .u64 b_3] aw26 sh73 (fun r27 aw28 =>
  cnd (decide (sign_1 = 0)) (CallP prog 14 [.int .i64 (IntKind.i64.wrap (r25 + r27))] aw28 sh14 (fun r30 aw31 =>
  Q r30 aw31) E) (cnd (decide (sign_1 = 1)) (CallP prog 14 [.int .i64 (IntKind.i64.wrap (r25 - r27))] aw28 sh14 (fun r33 aw34 =>
  Q r33 aw34) E) (cnd (decide (sign_1 = 2)) (CallP prog 14 [.int .i64 (IntKind.i64.wrap (r25 * r27))] aw28 sh14 (fun r36 aw37 =>
  Q r36 aw37) E) (cnd (decide (sign_1 = 3)) (S84_1 Q E  m_0 sign_1 a_2 b_3 r25 r27 sign_1 (decide (sign_1 = 3)) aw28) (S84_1 Q E  m_0 sign_1 a_2 b_3 r25 r27 sign_1 (decide (sign_1 = 4)) aw28))))) E) E
theorem S84_1_ok (Q : Int → AW → Prop) (E : List PanicEntry → AW → Prop)  (ρ : Env) (m_0 : Value) (sign_1 : Int) (a_2 : Int) (b_3 : Int) (x_9 : Int) (y_10 : Int) (t_15 : Int) (t_34 : Bool) (aw : AW) (h0 : ρ 0 = m_0) (h1 : ρ 1 = .int .i64 sign_1) (h2 : ρ 2 = .int .u64 a_2) (h3 : ρ 3 = .int .u64 b_3) (h9 : ρ 9 = .int .i64 x_9) (h10 : ρ 10 = .int .i64 y_10) (h15 : ρ 15 = .int .i64 t_15) (h34 : ρ 34 = .bool t_34) (H : S84_1 Q E  m_0 sign_1 a_2 b_3 x_9 y_10 t_15 t_34 aw) :
    AGo prog 76 [.code C84_32, .inBlock 0, .code C84_69] ρ [] aw (RR prog f84 76 sh84 Q E) := by
  unfold S84_1 at H
  refine ago_condE  E84_32 rfl h34 (fun hb1 => ?_) (fun hb1 => ?_)
  · replace H := cnd_t H hb1
    refine ago_seqE E84_33 ?_
    refine ago_seqE E84_34 ?_
    refine ago_regE E84_35 (l := [0, 1]) rfl ?_
    refine lk (dt := some 37) R84_11_N rfl rfl rfl (opv_move rfl rfl h10) ?_
    refine lk (dt := some 38) R84_11_N rfl rfl rfl (opv_eqI rfl rfl rfl rfl rfl) ?_
    refine aops_nil ?_
    refine ago_condE  E84_36 rfl rfl (fun hb2 => ?_) (fun hb2 => ?_)
    · replace H := cnd_t H hb2
      refine ago_regE E84_37 (l := [0, 1, 2]) rfl ?_
      refine lk (dt := some 39) R84_12_N rfl rfl rfl (ov_bld (r := [.string (⟨#[100, 105, 118]⟩ : ByteArray)]) rfl rfl bo116 (mp_cons rfl rfl) (fillP rfl rfl rfl rfl (fillN rfl))) ?_
      refine lk (dt := some 40) R84_12_N rfl rfl rfl (opv_mkIface rfl rfl underlying116 rfl rfl) ?_
      exact aops_panic R84_12_N rfl rfl (opp_panic rfl rfl rfl) ⟨rfl, H⟩
    · replace H := cnd_f H hb2
      refine ago_skipE E84_38 ?_
      refine ago_seqE E84_39 ?_
      refine ago_seqE E84_40 ?_
      refine ago_regE E84_41 (l := [0, 1]) rfl ?_
      refine lk (dt := some 41) R84_13_N rfl rfl rfl (opv_move rfl rfl h1) ?_
      refine lk (dt := some 42) R84_13_N rfl rfl rfl (opv_eqI rfl rfl rfl rfl rfl) ?_
      refine aops_nil ?_
      refine ago_condE  E84_42 rfl rfl (fun hb3 => ?_) (fun hb3 => ?_)
      · replace H := cnd_t H hb3
        refine ago_seqE E84_43 ?_
        refine ago_regE E84_44 (l := [0, 1, 2, 3, 4]) rfl ?_
        refine lk (dt := some 43) R84_14_N rfl rfl rfl (opv_move rfl rfl h9) ?_
        refine lk (dt := some 44) R84_14_N rfl rfl rfl (opv_move rfl rfl h10) ?_
        obtain ⟨hz4, H⟩ := H
        refine lk (dt := some 45) R84_14_N rfl rfl rfl (opv_quo rfl rfl rfl rfl rfl hz4) ?_
        refine lk_call (dt := some 46) R84_14_N rfl rfl rfl (opc_of rfl rfl is14 (ma_cons rfl rfl)) H (fun _ _ h => ⟨rfl, h⟩) fun r5 aw6 H => ?_
        refine lk (dt := some 8) R84_14_N rfl rfl rfl (opv_assign rfl rfl rfl) ?_
        refine aops_nil ?_
        exact ago_retE E84_45 (r := r5) (ares_1 rfl (oneT rfl)) rfl H
      · replace H := cnd_f H hb3
        refine ago_skipE E84_46 ?_
        refine ago_seqE E84_47 ?_
        refine ago_regE E84_48 (l := [0, 1, 2, 3, 4]) rfl ?_
        refine lk (dt := some 47) R84_15_N rfl rfl rfl (opv_move rfl rfl h9) ?_
        refine lk (dt := some 48) R84_15_N rfl rfl rfl (opv_move rfl rfl h10) ?_
        obtain ⟨hz7, H⟩ := H
        refine lk (dt := some 49) R84_15_N rfl rfl rfl (opv_rem rfl rfl rfl rfl rfl hz7) ?_
        refine lk_call (dt := some 50) R84_15_N rfl rfl rfl (opc_of rfl rfl is14 (ma_cons rfl rfl)) H (fun _ _ h => ⟨rfl, h⟩) fun r8 aw9 H => ?_
        refine lk (dt := some 8) R84_15_N rfl rfl rfl (opv_assign rfl rfl rfl) ?_
        refine aops_nil ?_
        exact ago_retE E84_49 (r := r8) (ares_1 rfl (oneT rfl)) rfl H
  · replace H := cnd_f H hb1
    refine ago_seqE E84_50 ?_
    refine ago_regE E84_51 (l := [0, 1]) rfl ?_
    refine lk (dt := some 52) R84_16_N rfl rfl rfl (opv_eqI rfl rfl rfl h15 rfl) ?_
    refine lk (dt := some 51) R84_16_N rfl rfl rfl (opv_assign rfl rfl rfl) ?_
    refine aops_nil ?_
    refine ago_condE  E84_52 rfl rfl (fun hb10 => ?_) (fun hb10 => ?_)
    · replace H := cnd_t H hb10
      refine ago_seqE E84_53 ?_
      refine ago_regE E84_54 (l := [0, 1, 2, 3, 4, 5]) rfl ?_
      refine lk (dt := some 53) R84_17_N rfl rfl rfl (opv_move rfl rfl h0) ?_
      refine lk (dt := some 54) R84_17_N rfl rfl rfl (opv_move rfl rfl h2) ?_
      refine lk (dt := some 55) R84_17_N rfl rfl rfl (opv_move rfl rfl h3) ?_
      refine lk_call (dt := some 56) R84_17_N rfl rfl rfl (opc_of rfl rfl is90 (ma_cons rfl (ma_cons rfl (ma_cons rfl rfl)))) H (fun _ _ h => ⟨rfl, h⟩) fun r11 aw12 H => ?_
      refine lk_call (dt := some 57) R84_17_N rfl rfl rfl (opc_of rfl rfl is85 (ma_cons rfl rfl)) H (fun _ _ h => ⟨rfl, h⟩) fun r13 aw14 H => ?_
      refine lk (dt := some 8) R84_17_N rfl rfl rfl (opv_assign rfl rfl rfl) ?_
      refine aops_nil ?_
      exact ago_retE E84_55 (r := r13) (ares_1 rfl (oneT rfl)) rfl H
    · replace H := cnd_f H hb10
      refine ago_seqE E84_56 ?_
      refine ago_regE E84_57 (l := [0, 1]) rfl ?_
      refine lk (dt := some 59) R84_18_N rfl rfl rfl (opv_eqI rfl rfl rfl h15 rfl) ?_
      refine lk (dt := some 58) R84_18_N rfl rfl rfl (opv_assign rfl rfl rfl) ?_
      refine aops_nil ?_
      refine ago_condE  E84_58 rfl rfl (fun hb15 => ?_) (fun hb15 => ?_)
      · replace H := cnd_t H hb15
        refine ago_seqE E84_59 ?_
        refine ago_regE E84_60 (l := [0, 1, 2, 3, 4, 5, 6]) rfl ?_
        refine lk (dt := some 60) R84_19_N rfl rfl rfl (opv_move rfl rfl h0) ?_
        refine lk (dt := some 61) R84_19_N rfl rfl rfl (opv_move rfl rfl h2) ?_
        refine lk (dt := some 62) R84_19_N rfl rfl rfl (opv_move rfl rfl h3) ?_
        refine lk_call (dt := some 63) R84_19_N rfl rfl rfl (opc_of rfl rfl is90 (ma_cons rfl (ma_cons rfl (ma_cons rfl rfl)))) H (fun _ _ h => ⟨rfl, h⟩) fun r16 aw17 H => ?_
        refine lk (dt := some 64) R84_19_N rfl rfl rfl (opv_not rfl rfl rfl) ?_
        refine lk_call (dt := some 65) R84_19_N rfl rfl rfl (opc_of rfl rfl is85 (ma_cons rfl rfl)) H (fun _ _ h => ⟨rfl, h⟩) fun r18 aw19 H => ?_
        refine lk (dt := some 8) R84_19_N rfl rfl rfl (opv_assign rfl rfl rfl) ?_
        refine aops_nil ?_
        exact ago_retE E84_61 (r := r18) (ares_1 rfl (oneT rfl)) rfl H
      · replace H := cnd_f H hb15
        refine ago_seqE E84_62 ?_
        refine ago_regE E84_63 (l := [0, 1]) rfl ?_
        refine lk (dt := some 67) R84_20_N rfl rfl rfl (opv_eqI rfl rfl rfl h15 rfl) ?_
        refine lk (dt := some 66) R84_20_N rfl rfl rfl (opv_assign rfl rfl rfl) ?_
        refine aops_nil ?_
        refine ago_condE  E84_64 rfl rfl (fun hb20 => ?_) (fun hb20 => ?_)
        · replace H := cnd_t H hb20
          refine ago_seqE E84_65 ?_
          refine ago_regE E84_66 (l := [0, 1, 2, 3, 4]) rfl ?_
          refine lk (dt := some 68) R84_21_N rfl rfl rfl (opv_move rfl rfl h9) ?_
          refine lk (dt := some 69) R84_21_N rfl rfl rfl (opv_move rfl rfl h10) ?_
          refine lk (dt := some 70) R84_21_N rfl rfl rfl (opv_lt rfl rfl rfl rfl rfl) ?_
          refine lk_call (dt := some 71) R84_21_N rfl rfl rfl (opc_of rfl rfl is85 (ma_cons rfl rfl)) H (fun _ _ h => ⟨rfl, h⟩) fun r21 aw22 H => ?_
          refine lk (dt := some 8) R84_21_N rfl rfl rfl (opv_assign rfl rfl rfl) ?_
          refine aops_nil ?_
          exact ago_retE E84_67 (r := r21) (ares_1 rfl (oneT rfl)) rfl H
        · replace H := cnd_f H hb20
          refine ago_skipE E84_68 ?_
          refine ago_inBlock ?_
          refine ago_seqE E84_69 ?_
          refine ago_regE E84_70 (l := [0, 1, 2, 3, 4]) rfl ?_
          refine lk (dt := some 72) R84_22_N rfl rfl rfl (opv_move rfl rfl h9) ?_
          refine lk (dt := some 73) R84_22_N rfl rfl rfl (opv_move rfl rfl h10) ?_
          refine lk (dt := some 74) R84_22_N rfl rfl rfl (opv_le rfl rfl rfl rfl rfl) ?_
          refine lk_call (dt := some 75) R84_22_N rfl rfl rfl (opc_of rfl rfl is85 (ma_cons rfl rfl)) H (fun _ _ h => ⟨rfl, h⟩) fun r23 aw24 H => ?_
          refine lk (dt := some 8) R84_22_N rfl rfl rfl (opv_assign rfl rfl rfl) ?_
          refine aops_nil ?_
          exact ago_retE E84_71 (r := r23) (ares_1 rfl (oneT rfl)) rfl H
theorem S84_0_ok (Q : Int → AW → Prop) (E : List PanicEntry → AW → Prop)  (ρ : Env) (m_0 : Value) (sign_1 : Int) (a_2 : Int) (b_3 : Int) (aw : AW) (h0 : ρ 0 = m_0) (h1 : ρ 1 = .int .i64 sign_1) (h2 : ρ 2 = .int .u64 a_2) (h3 : ρ 3 = .int .u64 b_3) (H : S84_0 Q E  m_0 sign_1 a_2 b_3 aw) :
    AGo prog 76 [.code C84_0] ρ [] aw (RR prog f84 76 sh84 Q E) := by
  unfold S84_0 at H
  refine ago_seqE E84_0 ?_
  refine ago_regE E84_1 (l := [0]) rfl ?_
  refine lk (dt := some 8) R84_0_N rfl rfl rfl (opv_assign rfl rfl rfl) ?_
  refine aops_nil ?_
  refine ago_seqE E84_2 ?_
  refine ago_regE E84_3 (l := [0, 1, 2, 3, 4, 5]) rfl ?_
  refine lk (dt := some 11) R84_1_N rfl rfl rfl (opv_move rfl rfl h2) ?_
  refine lk_call (dt := some 12) R84_1_N rfl rfl rfl (opc_of rfl rfl is73 (ma_cons rfl rfl)) H (fun _ _ h => ⟨rfl, h⟩) fun r25 aw26 H => ?_
  refine lk (dt := some 13) R84_1_N rfl rfl rfl (opv_move rfl rfl h3) ?_
  refine lk_call (dt := some 14) R84_1_N rfl rfl rfl (opc_of rfl rfl is73 (ma_cons rfl rfl)) H (fun _ _ h => ⟨rfl, h⟩) fun r27 aw28 H => ?_
  refine lk (dt := some 9) R84_1_N rfl rfl rfl (opv_assign rfl rfl rfl) ?_
  refine lk (dt := some 10) R84_1_N rfl rfl rfl (opv_assign rfl rfl rfl) ?_
  refine aops_nil ?_
  refine ago_seqE E84_4 ?_
  refine ago_seqE E84_5 ?_
  refine ago_regE E84_6 (l := [0]) rfl ?_
  refine lk (dt := some 15) R84_2_N rfl rfl rfl (opv_move rfl rfl h1) ?_
  refine aops_nil ?_
  refine ago_blockE E84_7 ?_
  refine ago_seqE E84_8 ?_
  refine ago_regE E84_9 (l := [0, 1]) rfl ?_
  refine lk (dt := some 17) R84_3_N rfl rfl rfl (opv_eqI rfl rfl rfl rfl rfl) ?_
  refine lk (dt := some 16) R84_3_N rfl rfl rfl (opv_assign rfl rfl rfl) ?_
  refine aops_nil ?_
  refine ago_condE  E84_10 rfl rfl (fun hb29 => ?_) (fun hb29 => ?_)
  · replace H := cnd_t H hb29
    refine ago_seqE E84_11 ?_
    refine ago_regE E84_12 (l := [0, 1, 2, 3, 4]) rfl ?_
    refine lk (dt := some 18) R84_4_N rfl rfl rfl (opv_move rfl rfl rfl) ?_
    refine lk (dt := some 19) R84_4_N rfl rfl rfl (opv_move rfl rfl rfl) ?_
    refine lk (dt := some 20) R84_4_N rfl rfl rfl (opv_add rfl rfl rfl rfl rfl) ?_
    refine lk_call (dt := some 21) R84_4_N rfl rfl rfl (opc_of rfl rfl is14 (ma_cons rfl rfl)) H (fun _ _ h => ⟨rfl, h⟩) fun r30 aw31 H => ?_
    refine lk (dt := some 8) R84_4_N rfl rfl rfl (opv_assign rfl rfl rfl) ?_
    refine aops_nil ?_
    exact ago_retE E84_13 (r := r30) (ares_1 rfl (oneT rfl)) rfl H
  · replace H := cnd_f H hb29
    refine ago_seqE E84_14 ?_
    refine ago_regE E84_15 (l := [0, 1]) rfl ?_
    refine lk (dt := some 23) R84_5_N rfl rfl rfl (opv_eqI rfl rfl rfl rfl rfl) ?_
    refine lk (dt := some 22) R84_5_N rfl rfl rfl (opv_assign rfl rfl rfl) ?_
    refine aops_nil ?_
    refine ago_condE  E84_16 rfl rfl (fun hb32 => ?_) (fun hb32 => ?_)
    · replace H := cnd_t H hb32
      refine ago_seqE E84_17 ?_
      refine ago_cut (fun ρ => ρ 9 = .int .i64 r25 ∧ ρ 10 = .int .i64 r27 ∧ True) ⟨rfl, rfl, trivial⟩ (fun ρ ⟨h9, h10, _⟩ => ?_)
      refine ago_regE E84_18 (l := [0, 1, 2, 3, 4]) rfl ?_
      refine lk (dt := some 24) R84_6_N rfl rfl rfl (opv_move rfl rfl h9) ?_
      refine lk (dt := some 25) R84_6_N rfl rfl rfl (opv_move rfl rfl h10) ?_
      refine lk (dt := some 26) R84_6_N rfl rfl rfl (opv_sub rfl rfl rfl rfl rfl) ?_
      refine lk_call (dt := some 27) R84_6_N rfl rfl rfl (opc_of rfl rfl is14 (ma_cons rfl rfl)) H (fun _ _ h => ⟨rfl, h⟩) fun r33 aw34 H => ?_
      refine lk (dt := some 8) R84_6_N rfl rfl rfl (opv_assign rfl rfl rfl) ?_
      refine aops_nil ?_
      exact ago_retE E84_19 (r := r33) (ares_1 rfl (oneT rfl)) rfl H
    · replace H := cnd_f H hb32
      refine ago_seqE E84_20 ?_
      refine ago_cut (fun ρ => ρ 0 = m_0 ∧ ρ 1 = .int .i64 sign_1 ∧ ρ 2 = .int .u64 a_2 ∧ ρ 3 = .int .u64 b_3 ∧ ρ 9 = .int .i64 r25 ∧ ρ 10 = .int .i64 r27 ∧ ρ 15 = .int .i64 sign_1 ∧ True) ⟨h0, h1, h2, h3, rfl, rfl, rfl, trivial⟩ (fun ρ ⟨h0, h1, h2, h3, h9, h10, h15, _⟩ => ?_)
      refine ago_regE E84_21 (l := [0, 1]) rfl ?_
      refine lk (dt := some 29) R84_7_N rfl rfl rfl (opv_eqI rfl rfl rfl h15 rfl) ?_
      refine lk (dt := some 28) R84_7_N rfl rfl rfl (opv_assign rfl rfl rfl) ?_
      refine aops_nil ?_
      refine ago_condE  E84_22 rfl rfl (fun hb35 => ?_) (fun hb35 => ?_)
      · replace H := cnd_t H hb35
        refine ago_seqE E84_23 ?_
        refine ago_regE E84_24 (l := [0, 1, 2, 3, 4]) rfl ?_
        refine lk (dt := some 30) R84_8_N rfl rfl rfl (opv_move rfl rfl h9) ?_
        refine lk (dt := some 31) R84_8_N rfl rfl rfl (opv_move rfl rfl h10) ?_
        refine lk (dt := some 32) R84_8_N rfl rfl rfl (opv_mul rfl rfl rfl rfl rfl) ?_
        refine lk_call (dt := some 33) R84_8_N rfl rfl rfl (opc_of rfl rfl is14 (ma_cons rfl rfl)) H (fun _ _ h => ⟨rfl, h⟩) fun r36 aw37 H => ?_
        refine lk (dt := some 8) R84_8_N rfl rfl rfl (opv_assign rfl rfl rfl) ?_
        refine aops_nil ?_
        exact ago_retE E84_25 (r := r36) (ares_1 rfl (oneT rfl)) rfl H
      · replace H := cnd_f H hb35
        refine ago_seqE E84_26 ?_
        refine ago_seqE E84_27 ?_
        refine ago_regE E84_28 (l := [0, 1]) rfl ?_
        refine lk (dt := some 35) R84_9_N rfl rfl rfl (opv_eqI rfl rfl rfl h15 rfl) ?_
        refine lk (dt := some 34) R84_9_N rfl rfl rfl (opv_assign rfl rfl rfl) ?_
        refine aops_nil ?_
        refine ago_condE  E84_29 rfl rfl (fun hb38 => ?_) (fun hb38 => ?_)
        · replace H := cnd_t H hb38
          refine ago_skipE E84_30 ?_
          exact S84_1_ok Q E  _ m_0 sign_1 a_2 b_3 r25 r27 sign_1 (decide (sign_1 = 3)) aw28 h0 h1 h2 h3 h9 h10 h15 rfl H
        · replace H := cnd_f H hb38
          refine ago_regE E84_31 (l := [0, 1]) rfl ?_
          refine lk (dt := some 36) R84_10_N rfl rfl rfl (opv_eqI rfl rfl rfl h15 rfl) ?_
          refine lk (dt := some 34) R84_10_N rfl rfl rfl (opv_assign rfl rfl rfl) ?_
          refine aops_nil ?_
          exact S84_1_ok Q E  _ m_0 sign_1 a_2 b_3 r25 r27 sign_1 (decide (sign_1 = 4)) aw28 h0 h1 h2 h3 h9 h10 h15 rfl H
theorem F84_ok {Q : Int → AW → Prop} {E : List PanicEntry → AW → Prop} (m_0 : Value) (sign_1 : Int) (a_2 : Int) (b_3 : Int) (aw : AW) (H : S84_0 Q E m_0 sign_1 a_2 b_3 aw) : CallP prog 84 [m_0, .int .i64 sign_1, .int .u64 a_2, .int .u64 b_3] aw sh84 Q E :=
  callP_of func84 C84_is rfl (Nat.le_of_ble_eq_true rfl) (S84_0_ok Q E _ m_0 sign_1 a_2 b_3 aw rfl rfl rfl rfl H)
def C85_0 : Code := bodyOf f85
theorem C85_is : f85.body = some C85_0 := by kernel_rfl
def C85_1 : Code := cl C85_0
def R85_0 : Array Oper := regOps C85_1
def C85_2 : Code := cr C85_0
def C85_3 : Code := cl C85_2
def C85_4 : Code := cl C85_3
def R85_1 : Array Oper := regOps C85_4
def C85_5 : Code := cr C85_3
def C85_6 : Code := cl C85_5
def C85_7 : Code := cl C85_6
def R85_2 : Array Oper := regOps C85_7
def C85_8 : Code := cr C85_6
def C85_9 : Code := cr C85_5
def C85_10 : Code := cr C85_2
def C85_11 : Code := cl C85_10
def R85_3 : Array Oper := regOps C85_11
def C85_12 : Code := cr C85_10
theorem R85_0_N : dstsOk 6 R85_0 = true := by decide +kernel
theorem E85_1 : C85_1 = .region 0 R85_0 false := rfl
theorem R85_1_N : dstsOk 6 R85_1 = true := by decide +kernel
theorem E85_4 : C85_4 = .region 1 R85_1 false := rfl
theorem R85_2_N : dstsOk 6 R85_2 = true := by decide +kernel
theorem E85_7 : C85_7 = .region 2 R85_2 false := rfl
theorem E85_8 : C85_8 = .ret := rfl
theorem E85_6 : C85_6 = .seq C85_7 C85_8 := rfl
theorem E85_9 : C85_9 = .skip := rfl
theorem E85_5 : C85_5 = .cond (.tmp 3) C85_6 C85_9 := rfl
theorem E85_3 : C85_3 = .seq C85_4 C85_5 := rfl
theorem R85_3_N : dstsOk 6 R85_3 = true := by decide +kernel
theorem E85_11 : C85_11 = .region 3 R85_3 false := rfl
theorem E85_12 : C85_12 = .ret := rfl
theorem E85_10 : C85_10 = .seq C85_11 C85_12 := rfl
theorem E85_2 : C85_2 = .seq C85_3 C85_10 := rfl
theorem E85_0 : C85_0 = .seq C85_1 C85_2 := rfl
def S85_0 (Q : Int → AW → Prop) (E : List PanicEntry → AW → Prop)  (b_0 : Bool) (aw : AW) : Prop :=
  cnd b_0 (CallP prog 14 [.int .i64 1] aw sh14 (fun r2 aw3 =>
  Q r2 aw3) E) (CallP prog 14 [.int .i64 0] aw sh14 (fun r4 aw5 =>
  Q r4 aw5) E)
theorem S85_0_ok (Q : Int → AW → Prop) (E : List PanicEntry → AW → Prop)  (ρ : Env) (b_0 : Bool) (aw : AW) (h0 : ρ 0 = .bool b_0) (H : S85_0 Q E  b_0 aw) :
    AGo prog 6 [.code C85_0] ρ [] aw (RR prog f85 6 sh85 Q E) := by
  unfold S85_0 at H
  refine ago_seqE E85_0 ?_
  refine ago_regE E85_1 (l := [0]) rfl ?_
  refine lk (dt := some 2) R85_0_N rfl rfl rfl (opv_assign rfl rfl rfl) ?_
  refine aops_nil ?_
  refine ago_seqE E85_2 ?_
  refine ago_seqE E85_3 ?_
  refine ago_regE E85_4 (l := [0]) rfl ?_
  refine lk (dt := some 3) R85_1_N rfl rfl rfl (opv_move rfl rfl h0) ?_
  refine aops_nil ?_
  refine ago_condE  E85_5 rfl rfl (fun hb1 => ?_) (fun hb1 => ?_)
  · replace H := cnd_t H hb1
    refine ago_seqE E85_6 ?_
    refine ago_regE E85_7 (l := [0, 1]) rfl ?_
    refine lk_call (dt := some 4) R85_2_N rfl rfl rfl (opc_of rfl rfl is14 (ma_cons rfl rfl)) H (fun _ _ h => ⟨rfl, h⟩) fun r2 aw3 H => ?_
    refine lk (dt := some 2) R85_2_N rfl rfl rfl (opv_assign rfl rfl rfl) ?_
    refine aops_nil ?_
    exact ago_retE E85_8 (r := r2) (ares_1 rfl (oneT rfl)) rfl H
  · replace H := cnd_f H hb1
    refine ago_skipE E85_9 ?_
    refine ago_seqE E85_10 ?_
    refine ago_regE E85_11 (l := [0, 1]) rfl ?_
    refine lk_call (dt := some 5) R85_3_N rfl rfl rfl (opc_of rfl rfl is14 (ma_cons rfl rfl)) H (fun _ _ h => ⟨rfl, h⟩) fun r4 aw5 H => ?_
    refine lk (dt := some 2) R85_3_N rfl rfl rfl (opv_assign rfl rfl rfl) ?_
    refine aops_nil ?_
    exact ago_retE E85_12 (r := r4) (ares_1 rfl (oneT rfl)) rfl H
theorem F85_ok {Q : Int → AW → Prop} {E : List PanicEntry → AW → Prop} (b_0 : Bool) (aw : AW) (H : S85_0 Q E b_0 aw) : CallP prog 85 [.bool b_0] aw sh85 Q E :=
  callP_of func85 C85_is rfl (Nat.le_of_ble_eq_true rfl) (S85_0_ok Q E _ b_0 aw rfl H)
def C90_0 : Code := bodyOf f90
theorem C90_is : f90.body = some C90_0 := by kernel_rfl
def C90_1 : Code := cl C90_0
def R90_0 : Array Oper := regOps C90_1
def C90_2 : Code := cr C90_0
def C90_3 : Code := cl C90_2
def R90_1 : Array Oper := regOps C90_3
def C90_4 : Code := cr C90_2
def C90_5 : Code := cl C90_4
def C90_6 : Code := cl C90_5
def R90_2 : Array Oper := regOps C90_6
def C90_7 : Code := cr C90_5
def C90_8 : Code := cl C90_7
def C90_9 : Code := cl C90_8
def R90_3 : Array Oper := regOps C90_9
def C90_10 : Code := cr C90_8
def C90_11 : Code := cr C90_7
def C90_12 : Code := cr C90_4
def C90_13 : Code := cl C90_12
def R90_4 : Array Oper := regOps C90_13
def C90_14 : Code := cr C90_12
def C90_15 : Code := cl C90_14
def C90_16 : Code := cl C90_15
def C90_17 : Code := cl C90_16
def R90_5 : Array Oper := regOps C90_17
def C90_18 : Code := cr C90_16
def C90_19 : Code := cl C90_18
def R90_6 : Array Oper := regOps C90_19
def C90_20 : Code := cr C90_18
def C90_21 : Code := cl C90_20
def R90_7 : Array Oper := regOps C90_21
def C90_22 : Code := cr C90_20
def C90_23 : Code := cl C90_22
def C90_24 : Code := cl C90_23
def R90_8 : Array Oper := regOps C90_24
def C90_25 : Code := cr C90_23
def C90_26 : Code := cr C90_22
def C90_27 : Code := cl C90_26
def R90_9 : Array Oper := regOps C90_27
def C90_28 : Code := cr C90_26
def C90_29 : Code := cl C90_28
def C90_30 : Code := cl C90_29
def R90_10 : Array Oper := regOps C90_30
def C90_31 : Code := cr C90_29
def C90_32 : Code := cr C90_28
def C90_33 : Code := cr C90_14
def C90_34 : Code := cl C90_33
def C90_35 : Code := cl C90_34
def R90_11 : Array Oper := regOps C90_35
def C90_36 : Code := cr C90_34
def C90_37 : Code := cl C90_36
def C90_38 : Code := cl C90_37
def C90_39 : Code := cl C90_38
def R90_12 : Array Oper := regOps C90_39
def C90_40 : Code := cr C90_38
def C90_41 : Code := cl C90_40
def C90_42 : Code := cl C90_41
def C90_43 : Code := cr C90_41
def C90_44 : Code := cr C90_40
def C90_45 : Code := cl C90_44
def C90_46 : Code := cl C90_45
def C90_47 : Code := cl C90_46
def R90_13 : Array Oper := regOps C90_47
def C90_48 : Code := cr C90_46
def C90_49 : Code := cl C90_48
def R90_14 : Array Oper := regOps C90_49
def C90_50 : Code := cr C90_48
def C90_51 : Code := cl C90_50
def C90_52 : Code := cl C90_51
def R90_15 : Array Oper := regOps C90_52
def C90_53 : Code := cr C90_51
def C90_54 : Code := cr C90_50
def C90_55 : Code := cr C90_44
def R90_16 : Array Oper := regOps C90_55
def C90_56 : Code := cr C90_33
def C90_57 : Code := cl C90_56
def R90_17 : Array Oper := regOps C90_57
def C90_58 : Code := cr C90_56
theorem R90_0_N : dstsOk 88 R90_0 = true := by decide +kernel
theorem E90_1 : C90_1 = .region 0 R90_0 false := rfl
theorem R90_1_N : dstsOk 88 R90_1 = true := by decide +kernel
theorem E90_3 : C90_3 = .region 1 R90_1 false := rfl
theorem R90_2_N : dstsOk 88 R90_2 = true := by decide +kernel
theorem E90_6 : C90_6 = .region 2 R90_2 false := rfl
theorem R90_3_N : dstsOk 88 R90_3 = true := by decide +kernel
theorem E90_9 : C90_9 = .region 3 R90_3 false := rfl
theorem E90_10 : C90_10 = .ret := rfl
theorem E90_8 : C90_8 = .seq C90_9 C90_10 := rfl
theorem E90_11 : C90_11 = .skip := rfl
theorem E90_7 : C90_7 = .cond (.tmp 16) C90_8 C90_11 := rfl
theorem E90_5 : C90_5 = .seq C90_6 C90_7 := rfl
theorem R90_4_N : dstsOk 88 R90_4 = true := by decide +kernel
theorem E90_13 : C90_13 = .region 4 R90_4 false := rfl
theorem R90_5_N : dstsOk 88 R90_5 = true := by decide +kernel
theorem E90_17 : C90_17 = .region 5 R90_5 false := rfl
theorem R90_6_N : dstsOk 88 R90_6 = true := by decide +kernel
theorem E90_19 : C90_19 = .region 6 R90_6 false := rfl
theorem R90_7_N : dstsOk 88 R90_7 = true := by decide +kernel
theorem E90_21 : C90_21 = .region 7 R90_7 false := rfl
theorem R90_8_N : dstsOk 88 R90_8 = true := by decide +kernel
theorem E90_24 : C90_24 = .region 8 R90_8 false := rfl
theorem E90_25 : C90_25 = .ret := rfl
theorem E90_23 : C90_23 = .seq C90_24 C90_25 := rfl
theorem R90_9_N : dstsOk 88 R90_9 = true := by decide +kernel
theorem E90_27 : C90_27 = .region 9 R90_9 false := rfl
theorem R90_10_N : dstsOk 88 R90_10 = true := by decide +kernel
theorem R90_10_O : linOk R90_10 [0, 1, 2, 3, 4, 6, 7, 8, 9, 10] [(5, [6, 7, 8, 9, 10], []), (11, [], [12, 13])] = true := by decide +kernel
theorem E90_30 : C90_30 = .region 10 R90_10 true := rfl
theorem E90_31 : C90_31 = .ret := rfl
theorem E90_29 : C90_29 = .seq C90_30 C90_31 := rfl
theorem E90_32 : C90_32 = .skip := rfl
theorem E90_28 : C90_28 = .cond (.tmp 51) C90_29 C90_32 := rfl
theorem E90_26 : C90_26 = .seq C90_27 C90_28 := rfl
theorem E90_22 : C90_22 = .cond (.tmp 45) C90_23 C90_26 := rfl
theorem E90_20 : C90_20 = .seq C90_21 C90_22 := rfl
theorem E90_18 : C90_18 = .cond (.tmp 26) C90_19 C90_20 := rfl
theorem E90_16 : C90_16 = .seq C90_17 C90_18 := rfl
theorem E90_15 : C90_15 = .block 0 C90_16 := rfl
theorem R90_11_N : dstsOk 88 R90_11 = true := by decide +kernel
theorem E90_35 : C90_35 = .region 11 R90_11 false := rfl
theorem R90_12_N : dstsOk 88 R90_12 = true := by decide +kernel
theorem E90_39 : C90_39 = .region 12 R90_12 false := rfl
theorem E90_42 : C90_42 = .skip := rfl
theorem E90_43 : C90_43 = .exit 1 := rfl
theorem E90_41 : C90_41 = .cond (.tmp 74) C90_42 C90_43 := rfl
theorem R90_13_N : dstsOk 88 R90_13 = true := by decide +kernel
theorem E90_47 : C90_47 = .region 13 R90_13 false := rfl
theorem R90_14_N : dstsOk 88 R90_14 = true := by decide +kernel
theorem E90_49 : C90_49 = .region 14 R90_14 false := rfl
theorem R90_15_N : dstsOk 88 R90_15 = true := by decide +kernel
theorem E90_52 : C90_52 = .region 15 R90_15 false := rfl
theorem E90_53 : C90_53 = .ret := rfl
theorem E90_51 : C90_51 = .seq C90_52 C90_53 := rfl
theorem E90_54 : C90_54 = .skip := rfl
theorem E90_50 : C90_50 = .cond (.tmp 86) C90_51 C90_54 := rfl
theorem E90_48 : C90_48 = .seq C90_49 C90_50 := rfl
theorem E90_46 : C90_46 = .seq C90_47 C90_48 := rfl
theorem E90_45 : C90_45 = .block 2 C90_46 := rfl
theorem R90_16_N : dstsOk 88 R90_16 = true := by decide +kernel
theorem E90_55 : C90_55 = .region 16 R90_16 false := rfl
theorem E90_44 : C90_44 = .seq C90_45 C90_55 := rfl
theorem E90_40 : C90_40 = .seq C90_41 C90_44 := rfl
theorem E90_38 : C90_38 = .seq C90_39 C90_40 := rfl
theorem E90_37 : C90_37 = .loop C90_38 := rfl
theorem E90_36 : C90_36 = .block 1 C90_37 := rfl
theorem E90_34 : C90_34 = .seq C90_35 C90_36 := rfl
theorem R90_17_N : dstsOk 88 R90_17 = true := by decide +kernel
theorem E90_57 : C90_57 = .region 17 R90_17 false := rfl
theorem E90_58 : C90_58 = .ret := rfl
theorem E90_56 : C90_56 = .seq C90_57 C90_58 := rfl
theorem E90_33 : C90_33 = .seq C90_34 C90_56 := rfl
theorem E90_14 : C90_14 = .seq C90_15 C90_33 := rfl
theorem E90_12 : C90_12 = .seq C90_13 C90_14 := rfl
theorem E90_4 : C90_4 = .seq C90_5 C90_12 := rfl
theorem E90_2 : C90_2 = .seq C90_3 C90_4 := rfl
theorem E90_0 : C90_0 = .seq C90_1 C90_2 := rfl
def S90_3s (Q : Bool → AW → Prop) (E : List PanicEntry → AW → Prop)  (nx3 : Value → Int → Int → Int → Int → AW → Prop) (m_0 : Value) (a_1 : Int) (b_2 : Int) (t_72 : Int) (t_73 : Int) (aw : AW) : Prop :=
  cnd (decide (t_73 < t_72)) (CallP prog 70 [m_0, .int .u64 a_1, .int .i64 t_73] aw sh70 (fun r2 aw3 =>
  CallP prog 70 [m_0, .int .u64 b_2, .int .i64 t_73] aw3 sh70 (fun r4 aw5 =>
  CallP prog 90 [m_0, .int .u64 r2, .int .u64 r4] aw5 sh90 (fun r6 aw7 =>
  cnd (!r6) (Q false aw7) (nx3 m_0 a_1 b_2 t_72 (IntKind.i64.wrap (t_73 + 1)) aw7)) E) E) E) (Q true aw)
def S90_3 (Q : Bool → AW → Prop) (E : List PanicEntry → AW → Prop)  : Nat → Value → Int → Int → Int → Int → AW → Prop
  | 0 => fun _ _ _ _ _ _ => False
  | n + 1 => S90_3s Q E  (S90_3 Q E  n)
def S90_2 (Q : Bool → AW → Prop) (E : List PanicEntry → AW → Prop)  (m_0 : Value) (a_1 : Int) (b_2 : Int) (k_7 : Int) (t_26 : Bool) (aw : AW) : Prop :=
  cnd t_26 (E [⟨(.iface 116 (.agg #[.string (⟨#[101, 113, 117, 97, 108]⟩ : ByteArray)])), false, false⟩] aw) (cnd (decide (k_7 = 4)) (Q (decide (a_1 = b_2)) aw) (cnd (decide (k_7 = 3)) (nck m_0 (fldA m_0 0 fun p13 =>
  ldV aw p13 fun x21 =>
  nck m_0 (fldA m_0 0 fun p24 =>
  ldV aw p24 fun x32 =>
  CallP prog 19 [x21, .int .u64 a_1] aw sh19 (fun r34 aw35 =>
  again1 aw35 p24 (x32) ∧ CallP prog 19 [x32, .int .u64 b_2] aw35 sh19 (fun r36 aw37 =>
  Q (decide (r34 = r36)) aw37) E) E))) (nck m_0 (fldA m_0 0 fun p39 =>
  ldV aw p39 fun x47 =>
  CallP prog 39 [x47, .int .u64 a_1] aw sh39 (fun r49 aw50 =>
  ∃ n, S90_3 Q E  n m_0 a_1 b_2 r49 0 aw50) E))))
def S90_1 (Q : Bool → AW → Prop) (E : List PanicEntry → AW → Prop)  (m_0 : Value) (a_1 : Int) (b_2 : Int) (t_16 : Bool) (aw : AW) : Prop :=
  cnd t_16 (Q (decide (a_1 = b_2)) aw) (nck m_0 (fldA m_0 0 fun p53 =>
  ldV aw p53 fun x61 =>
  CallP prog 38 [x61, .int .u64 a_1] aw sh38 (fun r63 aw64 =>
  nck m_0 (fldA m_0 0 fun p66 =>
  ldV aw64 p66 fun x74 =>
  CallP prog 38 [x74, .int .u64 b_2] aw64 sh38 (fun r76 aw77 =>
  cnd (!decide (r63 = r76)) (S90_2 Q E  m_0 a_1 b_2 r63 true aw77) (cnd (decide (r63 = 5)) (S90_2 Q E  m_0 a_1 b_2 r63 true aw77) (S90_2 Q E  m_0 a_1 b_2 r63 (decide (r63 = 6)) aw77))) E)) E))
def S90_0 (Q : Bool → AW → Prop) (E : List PanicEntry → AW → Prop)  (m_0 : Value) (a_1 : Int) (b_2 : Int) (aw : AW) : Prop :=
  CallP prog 81 [m_0] aw sh81 (fun r80 aw81 =>
  CallP prog 49 [.int .u64 a_1] aw81 sh49 (fun r82 aw83 =>
  cnd r82 (S90_1 Q E  m_0 a_1 b_2 true aw83) (CallP prog 49 [.int .u64 b_2] aw83 sh49 (fun r85 aw86 =>
  S90_1 Q E  m_0 a_1 b_2 r85 aw86) E)) E) E
theorem S90_3s_ok (Q : Bool → AW → Prop) (E : List PanicEntry → AW → Prop)  (nx3 : Value → Int → Int → Int → Int → AW → Prop) (L3 : ∀ (ρ : Env) (m_0 : Value) (a_1 : Int) (b_2 : Int) (t_72 : Int) (t_73 : Int) (aw : AW) (h0 : ρ 0 = m_0) (h1 : ρ 1 = .int .u64 a_1) (h2 : ρ 2 = .int .u64 b_2) (h72 : ρ 72 = .int .i64 t_72) (h73 : ρ 73 = .int .i64 t_73), nx3 m_0 a_1 b_2 t_72 t_73 aw → AGo prog 88 [.code C90_38, .inLoop C90_38, .inBlock 1, .code C90_56] ρ [] aw (RR prog f90 88 sh90 Q E)) (ρ : Env) (m_0 : Value) (a_1 : Int) (b_2 : Int) (t_72 : Int) (t_73 : Int) (aw : AW) (h0 : ρ 0 = m_0) (h1 : ρ 1 = .int .u64 a_1) (h2 : ρ 2 = .int .u64 b_2) (h72 : ρ 72 = .int .i64 t_72) (h73 : ρ 73 = .int .i64 t_73) (H : S90_3s Q E  nx3 m_0 a_1 b_2 t_72 t_73 aw) :
    AGo prog 88 [.code C90_38, .inLoop C90_38, .inBlock 1, .code C90_56] ρ [] aw (RR prog f90 88 sh90 Q E) := by
  unfold S90_3s at H
  refine ago_seqE E90_38 ?_
  refine ago_regE E90_39 (l := [0]) rfl ?_
  refine lk (dt := some 74) R90_12_N rfl rfl rfl (opv_lt rfl rfl rfl h73 h72) ?_
  refine aops_nil ?_
  refine ago_seqE E90_40 ?_
  refine ago_condE  E90_41 rfl rfl (fun hb1 => ?_) (fun hb1 => ?_)
  · replace H := cnd_t H hb1
    refine ago_skipE E90_42 ?_
    refine ago_seqE E90_44 ?_
    refine ago_blockE E90_45 ?_
    refine ago_seqE E90_46 ?_
    refine ago_regE E90_47 (l := [0, 1]) rfl ?_
    refine lk (dt := some 75) R90_13_N rfl rfl rfl (opv_move rfl rfl h73) ?_
    refine lk (dt := some 8) R90_13_N rfl rfl rfl (opv_assign rfl rfl rfl) ?_
    refine aops_nil ?_
    refine ago_seqE E90_48 ?_
    refine ago_regE E90_49 (l := [0, 1, 2, 3, 4, 5, 6, 7, 8, 9, 10]) rfl ?_
    refine lk (dt := some 76) R90_14_N rfl rfl rfl (opv_move rfl rfl h0) ?_
    refine lk (dt := some 77) R90_14_N rfl rfl rfl (opv_move rfl rfl h0) ?_
    refine lk (dt := some 78) R90_14_N rfl rfl rfl (opv_move rfl rfl h1) ?_
    refine lk (dt := some 79) R90_14_N rfl rfl rfl (opv_move rfl rfl rfl) ?_
    refine lk_call (dt := some 80) R90_14_N rfl rfl rfl (opc_of rfl rfl is70 (ma_cons rfl (ma_cons rfl (ma_cons rfl rfl)))) H (fun _ _ h => ⟨rfl, h⟩) fun r2 aw3 H => ?_
    refine lk (dt := some 81) R90_14_N rfl rfl rfl (opv_move rfl rfl h0) ?_
    refine lk (dt := some 82) R90_14_N rfl rfl rfl (opv_move rfl rfl h2) ?_
    refine lk (dt := some 83) R90_14_N rfl rfl rfl (opv_move rfl rfl rfl) ?_
    refine lk_call (dt := some 84) R90_14_N rfl rfl rfl (opc_of rfl rfl is70 (ma_cons rfl (ma_cons rfl (ma_cons rfl rfl)))) H (fun _ _ h => ⟨rfl, h⟩) fun r4 aw5 H => ?_
    refine lk_call (dt := some 85) R90_14_N rfl rfl rfl (opc_of rfl rfl is90 (ma_cons rfl (ma_cons rfl (ma_cons rfl rfl)))) H (fun _ _ h => ⟨rfl, h⟩) fun r6 aw7 H => ?_
    refine lk (dt := some 86) R90_14_N rfl rfl rfl (opv_not rfl rfl rfl) ?_
    refine aops_nil ?_
    refine ago_condE  E90_50 rfl rfl (fun hb8 => ?_) (fun hb8 => ?_)
    · replace H := cnd_t H hb8
      refine ago_seqE E90_51 ?_
      refine ago_regE E90_52 (l := [0]) rfl ?_
      refine lk (dt := some 6) R90_15_N rfl rfl rfl (opv_assign rfl rfl rfl) ?_
      refine aops_nil ?_
      exact ago_retE E90_53 (r := false) (ares_1 rfl (oneT rfl)) rfl H
    · replace H := cnd_f H hb8
      refine ago_skipE E90_54 ?_
      refine ago_inBlock ?_
      refine ago_cut (fun ρ => ρ 0 = m_0 ∧ ρ 1 = .int .u64 a_1 ∧ ρ 2 = .int .u64 b_2 ∧ ρ 72 = .int .i64 t_72 ∧ ρ 73 = .int .i64 t_73 ∧ True) ⟨h0, h1, h2, h72, h73, trivial⟩ (fun ρ ⟨h0, h1, h2, h72, h73, _⟩ => ?_)
      refine ago_regE E90_55 (l := [0, 1]) rfl ?_
      refine lk (dt := some 87) R90_16_N rfl rfl rfl (opv_add rfl rfl rfl h73 rfl) ?_
      refine lk (dt := some 73) R90_16_N rfl rfl rfl (opv_move rfl rfl rfl) ?_
      refine aops_nil ?_
      refine ago_inLoop ?_
      exact L3 _ m_0 a_1 b_2 t_72 (IntKind.i64.wrap (t_73 + 1)) aw7 h0 h1 h2 h72 rfl H
  · replace H := cnd_f H hb1
    refine ago_exitE E90_43 rfl ?_
    refine ago_seqE E90_56 ?_
    refine ago_regE E90_57 (l := [0]) rfl ?_
    refine lk (dt := some 6) R90_17_N rfl rfl rfl (opv_assign rfl rfl rfl) ?_
    refine aops_nil ?_
    exact ago_retE E90_58 (r := true) (ares_1 rfl (oneT rfl)) rfl H
theorem S90_3_ok (Q : Bool → AW → Prop) (E : List PanicEntry → AW → Prop)  : ∀ (n : Nat) (ρ : Env) (m_0 : Value) (a_1 : Int) (b_2 : Int) (t_72 : Int) (t_73 : Int) (aw : AW) (h0 : ρ 0 = m_0) (h1 : ρ 1 = .int .u64 a_1) (h2 : ρ 2 = .int .u64 b_2) (h72 : ρ 72 = .int .i64 t_72) (h73 : ρ 73 = .int .i64 t_73), S90_3 Q E  n m_0 a_1 b_2 t_72 t_73 aw →
    AGo prog 88 [.code C90_38, .inLoop C90_38, .inBlock 1, .code C90_56] ρ [] aw (RR prog f90 88 sh90 Q E)
  | 0, _, _, _, _, _, _, _, _, _, _, _, _ => fun H => H.elim
  | n + 1, ρ, m_0, a_1, b_2, t_72, t_73, aw, h0, h1, h2, h72, h73 => fun H => S90_3s_ok Q E  _ (S90_3_ok Q E  n) ρ m_0 a_1 b_2 t_72 t_73 aw h0 h1 h2 h72 h73 H
theorem S90_2_ok (Q : Bool → AW → Prop) (E : List PanicEntry → AW → Prop)  (ρ : Env) (m_0 : Value) (a_1 : Int) (b_2 : Int) (k_7 : Int) (t_26 : Bool) (aw : AW) (h0 : ρ 0 = m_0) (h1 : ρ 1 = .int .u64 a_1) (h2 : ρ 2 = .int .u64 b_2) (h7 : ρ 7 = .int .u8 k_7) (h26 : ρ 26 = .bool t_26) (H : S90_2 Q E  m_0 a_1 b_2 k_7 t_26 aw) :
    AGo prog 88 [.code C90_18, .inBlock 0, .code C90_33] ρ [] aw (RR prog f90 88 sh90 Q E) := by
  unfold S90_2 at H
  refine ago_condE  E90_18 rfl h26 (fun hb9 => ?_) (fun hb9 => ?_)
  · replace H := cnd_t H hb9
    refine ago_regE E90_19 (l := [0, 1, 2]) rfl ?_
    refine lk (dt := some 43) R90_6_N rfl rfl rfl (ov_bld (r := [.string (⟨#[101, 113, 117, 97, 108]⟩ : ByteArray)]) rfl rfl bo116 (mp_cons rfl rfl) (fillP rfl rfl rfl rfl (fillN rfl))) ?_
    refine lk (dt := some 44) R90_6_N rfl rfl rfl (opv_mkIface rfl rfl underlying116 rfl rfl) ?_
    exact aops_panic R90_6_N rfl rfl (opp_panic rfl rfl rfl) ⟨rfl, H⟩
  · replace H := cnd_f H hb9
    refine ago_seqE E90_20 ?_
    refine ago_regE E90_21 (l := [0, 1, 2]) rfl ?_
    refine lk (dt := some 46) R90_7_N rfl rfl rfl (opv_move rfl rfl h7) ?_
    refine lk (dt := some 47) R90_7_N rfl rfl rfl (opv_eqI rfl rfl rfl rfl rfl) ?_
    refine lk (dt := some 45) R90_7_N rfl rfl rfl (opv_assign rfl rfl rfl) ?_
    refine aops_nil ?_
    refine ago_condE  E90_22 rfl rfl (fun hb10 => ?_) (fun hb10 => ?_)
    · replace H := cnd_t H hb10
      refine ago_seqE E90_23 ?_
      refine ago_regE E90_24 (l := [0, 1, 2, 3]) rfl ?_
      refine lk (dt := some 48) R90_8_N rfl rfl rfl (opv_move rfl rfl h1) ?_
      refine lk (dt := some 49) R90_8_N rfl rfl rfl (opv_move rfl rfl h2) ?_
      refine lk (dt := some 50) R90_8_N rfl rfl rfl (opv_eqI rfl rfl rfl rfl rfl) ?_
      refine lk (dt := some 6) R90_8_N rfl rfl rfl (opv_assign rfl rfl rfl) ?_
      refine aops_nil ?_
      exact ago_retE E90_25 (r := (decide (a_1 = b_2))) (ares_1 rfl (oneT rfl)) rfl H
    · replace H := cnd_f H hb10
      refine ago_seqE E90_26 ?_
      refine ago_regE E90_27 (l := [0, 1, 2]) rfl ?_
      refine lk (dt := some 52) R90_9_N rfl rfl rfl (opv_move rfl rfl h7) ?_
      refine lk (dt := some 53) R90_9_N rfl rfl rfl (opv_eqI rfl rfl rfl rfl rfl) ?_
      refine lk (dt := some 51) R90_9_N rfl rfl rfl (opv_assign rfl rfl rfl) ?_
      refine aops_nil ?_
      refine ago_condE  E90_28 rfl rfl (fun hb11 => ?_) (fun hb11 => ?_)
      · replace H := cnd_t H hb11
        refine ago_seqE E90_29 ?_
        obtain ⟨hp12, H⟩ := H
        obtain ⟨b14, i15, p13, hp16, hv17, H⟩ := H
        obtain ⟨b18, i19, x21, hp20, hg22, H⟩ := H
        obtain ⟨hp23, H⟩ := H
        obtain ⟨b25, i26, p24, hp27, hv28, H⟩ := H
        obtain ⟨b29, i30, x32, hp31, hg33, H⟩ := H
        refine ago_drawH (p := [0, 1, 2, 3, 4, 6, 7, 8, 9, 10]) (tl := [(5, [6, 7, 8, 9, 10], []), (11, [], [12, 13])]) (hv := [(0, m_0), (1, m_0), (2, p13), (3, x21), (4, Value.int .u64 a_1), (6, m_0), (7, m_0), (8, p24), (9, x32), (10, Value.int .u64 b_2)]) E90_30 mixed R90_10_N R90_10_O rfl (pv_cons rfl (pv_cons rfl (pv_cons rfl (pv_cons rfl (pv_cons rfl (pv_cons rfl (pv_cons rfl (pv_cons rfl (pv_cons rfl (pv_cons rfl (pv_nil _)))))))))))
          (ffc (d := 54) (v := m_0) (hd_v rfl fun ρ hρ => ⟨rfl, opv_move rfl rfl ((hρ 0 (lmem rfl)).trans h0)⟩) rfl rfl
          (ffc (d := 55) (v := m_0) (hd_v rfl fun ρ hρ => ⟨rfl, ov_nck rfl rfl ((hρ 54 (lmem rfl)).trans rfl) hp12⟩) rfl rfl
          (ffc (d := 56) (v := p13) (hd_v rfl fun ρ hρ => ⟨rfl, ov_fldA rfl rfl underlying77 rfl sz50 (by decide) ((hρ 55 (lmem rfl)).trans rfl) hp16 rfl hv17⟩) rfl rfl
          (ffc (d := 57) (v := x21) (hd_v rfl fun ρ hρ => ⟨rfl, ov_ldV rfl underlying50 rfl rfl ((hρ 56 (lmem rfl)).trans rfl) hp20 hg22⟩) rfl rfl
          (ffc (d := 58) (v := .int .u64 a_1) (hd_v rfl fun ρ hρ => ⟨rfl, opv_move rfl rfl ((hρ 1 (lmem rfl)).trans h1)⟩) rfl rfl
          (ffc (d := 60) (v := m_0) (hd_v rfl fun ρ hρ => ⟨rfl, opv_move rfl rfl ((hρ 0 (lmem rfl)).trans h0)⟩) rfl rfl
          (ffc (d := 61) (v := m_0) (hd_v rfl fun ρ hρ => ⟨rfl, ov_nck rfl rfl ((hρ 60 (lmem rfl)).trans rfl) hp23⟩) rfl rfl
          (ffc (d := 62) (v := p24) (hd_v rfl fun ρ hρ => ⟨rfl, ov_fldA rfl rfl underlying77 rfl sz50 (by decide) ((hρ 61 (lmem rfl)).trans rfl) hp27 rfl hv28⟩) rfl rfl
          (ffc (d := 63) (v := x32) (hd_v rfl fun ρ hρ => ⟨rfl, ov_ldV rfl underlying50 rfl rfl ((hρ 62 (lmem rfl)).trans rfl) hp31 hg33⟩) rfl rfl
          (ffc (d := 64) (v := .int .u64 b_2) (hd_v rfl fun ρ hρ => ⟨rfl, opv_move rfl rfl ((hρ 2 (lmem rfl)).trans h2)⟩) rfl rfl
          ffn)))))))))) ?_
        refine lt_call (dt := some 59) rfl rfl (fun ρ hρ => ⟨rfl, opc_of rfl rfl is19 (ma_cons ((hρ 57 (lmem rfl)).trans rfl) (ma_cons ((hρ 58 (lmem rfl)).trans rfl) rfl))⟩) H (fun _ _ h _ => ⟨rfl, h⟩) fun r34 aw35 H => ?_
        obtain ⟨hg33, H⟩ := H
        replace hg33 := hg33 _ _ hp31
        refine lt_next (l := [6, 7, 8, 9, 10]) (hv := []) rfl rfl (pv_nil _)
          (ffc (d := 60) (v := m_0) (hd_v rfl fun ρ hρ => ⟨rfl, opv_move rfl rfl ((hρ 0 (lmem rfl)).trans h0)⟩) rfl rfl
          (ffc (d := 61) (v := m_0) (hd_v rfl fun ρ hρ => ⟨rfl, ov_nck rfl rfl ((hρ 60 (lmem rfl)).trans rfl) hp23⟩) rfl rfl
          (ffc (d := 62) (v := p24) (hd_v rfl fun ρ hρ => ⟨rfl, ov_fldA rfl rfl underlying77 rfl sz50 (by decide) ((hρ 61 (lmem rfl)).trans rfl) hp27 rfl hv28⟩) rfl rfl
          (ffc (d := 63) (v := x32) (hd_v rfl fun ρ hρ => ⟨rfl, ov_ldV rfl underlying50 rfl rfl ((hρ 62 (lmem rfl)).trans rfl) hp31 hg33⟩) rfl rfl
          (ffc (d := 64) (v := .int .u64 b_2) (hd_v rfl fun ρ hρ => ⟨rfl, opv_move rfl rfl ((hρ 2 (lmem rfl)).trans h2)⟩) rfl rfl
          ffn))))) ?_
        refine lt_call (dt := some 65) rfl rfl (fun ρ hρ => ⟨rfl, opc_of rfl rfl is19 (ma_cons ((hρ 63 (lmem rfl)).trans rfl) (ma_cons ((hρ 64 (lmem rfl)).trans rfl) rfl))⟩) H (fun _ _ h _ => ⟨rfl, h⟩) fun r36 aw37 H => ?_
        refine lt_next (l := [12, 13]) (hv := [(12, Value.bool (decide (r34 = r36))), (13, Value.bool (decide (r34 = r36)))]) rfl rfl (pv_cons rfl (pv_cons rfl (pv_nil _)))
          (ffc (d := 66) (v := .bool (decide (r34 = r36))) (hd_v rfl fun ρ hρ => ⟨rfl, opv_eqS rfl rfl rfl ((hρ 59 (lmem rfl)).trans rfl) ((hρ 65 (lmem rfl)).trans rfl)⟩) rfl rfl
          (ffc (d := 6) (v := .bool (decide (r34 = r36))) (hd_v rfl fun ρ hρ => ⟨rfl, opv_assign rfl rfl ((hρ 66 (lmem rfl)).trans rfl)⟩) rfl rfl
          ffn)) ?_
        refine lt_end ?_
        exact ago_retE E90_31 (r := (decide (r34 = r36))) (ares_1 rfl (oneT rfl)) rfl H
      · replace H := cnd_f H hb11
        refine ago_skipE E90_32 ?_
        refine ago_inBlock ?_
        refine ago_seqE E90_33 ?_
        refine ago_seqE E90_34 ?_
        refine ago_regE E90_35 (l := [0, 1, 2, 3, 4, 5, 6]) rfl ?_
        refine lk (dt := some 67) R90_11_N rfl rfl rfl (opv_move rfl rfl h0) ?_
        obtain ⟨hp38, H⟩ := H
        refine lk (dt := some 68) R90_11_N rfl rfl rfl (ov_nck rfl rfl rfl hp38) ?_
        obtain ⟨b40, i41, p39, hp42, hv43, H⟩ := H
        refine lk (dt := some 69) R90_11_N rfl rfl rfl (ov_fldA rfl rfl underlying77 rfl sz50 (by decide) rfl hp42 rfl hv43) ?_
        obtain ⟨b44, i45, x47, hp46, hg48, H⟩ := H
        refine lk (dt := some 70) R90_11_N rfl rfl rfl (ov_ldV rfl underlying50 rfl rfl rfl hp46 hg48) ?_
        refine lk (dt := some 71) R90_11_N rfl rfl rfl (opv_move rfl rfl h1) ?_
        refine lk_call (dt := some 72) R90_11_N rfl rfl rfl (opc_of rfl rfl is39 (ma_cons rfl (ma_cons rfl rfl))) H (fun _ _ h => ⟨rfl, h⟩) fun r49 aw50 H => ?_
        refine lk (dt := some 73) R90_11_N rfl rfl rfl (opv_move rfl rfl rfl) ?_
        refine aops_nil ?_
        refine ago_blockE E90_36 ?_
        refine ago_loopE E90_37 ?_
        obtain ⟨n, H⟩ := H
        exact S90_3_ok Q E  n _ m_0 a_1 b_2 r49 0 aw50 h0 h1 h2 rfl rfl H
theorem S90_1_ok (Q : Bool → AW → Prop) (E : List PanicEntry → AW → Prop)  (ρ : Env) (m_0 : Value) (a_1 : Int) (b_2 : Int) (t_16 : Bool) (aw : AW) (h0 : ρ 0 = m_0) (h1 : ρ 1 = .int .u64 a_1) (h2 : ρ 2 = .int .u64 b_2) (h16 : ρ 16 = .bool t_16) (H : S90_1 Q E  m_0 a_1 b_2 t_16 aw) :
    AGo prog 88 [.code C90_7, .code C90_12] ρ [] aw (RR prog f90 88 sh90 Q E) := by
  unfold S90_1 at H
  refine ago_condE  E90_7 rfl h16 (fun hb51 => ?_) (fun hb51 => ?_)
  · replace H := cnd_t H hb51
    refine ago_seqE E90_8 ?_
    refine ago_regE E90_9 (l := [0, 1, 2, 3]) rfl ?_
    refine lk (dt := some 17) R90_3_N rfl rfl rfl (opv_move rfl rfl h1) ?_
    refine lk (dt := some 18) R90_3_N rfl rfl rfl (opv_move rfl rfl h2) ?_
    refine lk (dt := some 19) R90_3_N rfl rfl rfl (opv_eqI rfl rfl rfl rfl rfl) ?_
    refine lk (dt := some 6) R90_3_N rfl rfl rfl (opv_assign rfl rfl rfl) ?_
    refine aops_nil ?_
    exact ago_retE E90_10 (r := (decide (a_1 = b_2))) (ares_1 rfl (oneT rfl)) rfl H
  · replace H := cnd_f H hb51
    refine ago_skipE E90_11 ?_
    refine ago_seqE E90_12 ?_
    refine ago_regE E90_13 (l := [0, 1, 2, 3, 4, 5, 6]) rfl ?_
    refine lk (dt := some 20) R90_4_N rfl rfl rfl (opv_move rfl rfl h0) ?_
    obtain ⟨hp52, H⟩ := H
    refine lk (dt := some 21) R90_4_N rfl rfl rfl (ov_nck rfl rfl rfl hp52) ?_
    obtain ⟨b54, i55, p53, hp56, hv57, H⟩ := H
    refine lk (dt := some 22) R90_4_N rfl rfl rfl (ov_fldA rfl rfl underlying77 rfl sz50 (by decide) rfl hp56 rfl hv57) ?_
    obtain ⟨b58, i59, x61, hp60, hg62, H⟩ := H
    refine lk (dt := some 23) R90_4_N rfl rfl rfl (ov_ldV rfl underlying50 rfl rfl rfl hp60 hg62) ?_
    refine lk (dt := some 24) R90_4_N rfl rfl rfl (opv_move rfl rfl h1) ?_
    refine lk_call (dt := some 25) R90_4_N rfl rfl rfl (opc_of rfl rfl is38 (ma_cons rfl (ma_cons rfl rfl))) H (fun _ _ h => ⟨rfl, h⟩) fun r63 aw64 H => ?_
    refine lk (dt := some 7) R90_4_N rfl rfl rfl (opv_assign rfl rfl rfl) ?_
    refine aops_nil ?_
    refine ago_seqE E90_14 ?_
    refine ago_blockE E90_15 ?_
    refine ago_seqE E90_16 ?_
    refine ago_regE E90_17 (l := [0, 1, 2, 3, 4, 5, 6, 7, 8, 9, 10, 11, 12, 13, 14, 15, 16]) rfl ?_
    refine lk (dt := some 27) R90_5_N rfl rfl rfl (opv_move rfl rfl rfl) ?_
    refine lk (dt := some 28) R90_5_N rfl rfl rfl (opv_move rfl rfl h0) ?_
    obtain ⟨hp65, H⟩ := H
    refine lk (dt := some 29) R90_5_N rfl rfl rfl (ov_nck rfl rfl rfl hp65) ?_
    obtain ⟨b67, i68, p66, hp69, hv70, H⟩ := H
    refine lk (dt := some 30) R90_5_N rfl rfl rfl (ov_fldA rfl rfl underlying77 rfl sz50 (by decide) rfl hp69 rfl hv70) ?_
    obtain ⟨b71, i72, x74, hp73, hg75, H⟩ := H
    refine lk (dt := some 31) R90_5_N rfl rfl rfl (ov_ldV rfl underlying50 rfl rfl rfl hp73 hg75) ?_
    refine lk (dt := some 32) R90_5_N rfl rfl rfl (opv_move rfl rfl h2) ?_
    refine lk_call (dt := some 33) R90_5_N rfl rfl rfl (opc_of rfl rfl is38 (ma_cons rfl (ma_cons rfl rfl))) H (fun _ _ h => ⟨rfl, h⟩) fun r76 aw77 H => ?_
    refine lk (dt := some 34) R90_5_N rfl rfl rfl (opv_neI rfl rfl rfl rfl rfl) ?_
    refine lk (dt := some 35) R90_5_N rfl rfl rfl (opv_move rfl rfl rfl) ?_
    rcases Bool.eq_false_or_eq_true (!decide (r63 = r76)) with hb78 | hb78
    · replace H := cnd_t H hb78
      refine lk_skip (dt := some 36) R90_5_N rfl rfl ⟨_, rfl, .inl ⟨_, rfl, gq hb78 rfl⟩⟩ ?_
      refine lk_skip (dt := some 37) R90_5_N rfl rfl ⟨_, rfl, .inl ⟨_, rfl, gq hb78 rfl⟩⟩ ?_
      refine lk (dt := some 38) R90_5_N rfl rfl rfl (ov_pickT rfl rfl rfl rfl rfl hb78 rfl) ?_
      refine lk (dt := some 39) R90_5_N rfl rfl rfl (opv_move rfl rfl rfl) ?_
      refine lk_skip (dt := some 40) R90_5_N rfl rfl ⟨_, rfl, .inl ⟨_, rfl, gq rfl rfl⟩⟩ ?_
      refine lk_skip (dt := some 41) R90_5_N rfl rfl ⟨_, rfl, .inl ⟨_, rfl, gq rfl rfl⟩⟩ ?_
      refine lk (dt := some 42) R90_5_N rfl rfl rfl (ov_pickT rfl rfl rfl rfl rfl rfl rfl) ?_
      refine lk (dt := some 26) R90_5_N rfl rfl rfl (opv_assign rfl rfl rfl) ?_
      refine aops_nil ?_
      exact S90_2_ok Q E  _ m_0 a_1 b_2 r63 true aw77 h0 h1 h2 rfl rfl H
    · replace H := cnd_f H hb78
      refine lk (dt := some 36) R90_5_N rfl rfl ⟨_, rfl, .inl ⟨_, rfl, gq hb78 rfl⟩⟩ (opv_move rfl rfl rfl) ?_
      refine lk (dt := some 37) R90_5_N rfl rfl ⟨_, rfl, .inl ⟨_, rfl, gq hb78 rfl⟩⟩ (opv_eqI rfl rfl rfl rfl rfl) ?_
      refine lk (dt := some 38) R90_5_N rfl rfl rfl (ov_pickF rfl rfl rfl rfl rfl hb78 rfl) ?_
      refine lk (dt := some 39) R90_5_N rfl rfl rfl (opv_move rfl rfl rfl) ?_
      rcases Bool.eq_false_or_eq_true (decide (r63 = 5)) with hb79 | hb79
      · replace H := cnd_t H hb79
        refine lk_skip (dt := some 40) R90_5_N rfl rfl ⟨_, rfl, .inl ⟨_, rfl, gq hb79 rfl⟩⟩ ?_
        refine lk_skip (dt := some 41) R90_5_N rfl rfl ⟨_, rfl, .inl ⟨_, rfl, gq hb79 rfl⟩⟩ ?_
        refine lk (dt := some 42) R90_5_N rfl rfl rfl (ov_pickT rfl rfl rfl rfl rfl hb79 rfl) ?_
        refine lk (dt := some 26) R90_5_N rfl rfl rfl (opv_assign rfl rfl rfl) ?_
        refine aops_nil ?_
        exact S90_2_ok Q E  _ m_0 a_1 b_2 r63 true aw77 h0 h1 h2 rfl rfl H
      · replace H := cnd_f H hb79
        refine lk (dt := some 40) R90_5_N rfl rfl ⟨_, rfl, .inl ⟨_, rfl, gq hb79 rfl⟩⟩ (opv_move rfl rfl rfl) ?_
        refine lk (dt := some 41) R90_5_N rfl rfl ⟨_, rfl, .inl ⟨_, rfl, gq hb79 rfl⟩⟩ (opv_eqI rfl rfl rfl rfl rfl) ?_
        refine lk (dt := some 42) R90_5_N rfl rfl rfl (ov_pickF rfl rfl rfl rfl rfl hb79 rfl) ?_
        refine lk (dt := some 26) R90_5_N rfl rfl rfl (opv_assign rfl rfl rfl) ?_
        refine aops_nil ?_
        exact S90_2_ok Q E  _ m_0 a_1 b_2 r63 (decide (r63 = 6)) aw77 h0 h1 h2 rfl rfl H
theorem S90_0_ok (Q : Bool → AW → Prop) (E : List PanicEntry → AW → Prop)  (ρ : Env) (m_0 : Value) (a_1 : Int) (b_2 : Int) (aw : AW) (h0 : ρ 0 = m_0) (h1 : ρ 1 = .int .u64 a_1) (h2 : ρ 2 = .int .u64 b_2) (H : S90_0 Q E  m_0 a_1 b_2 aw) :
    AGo prog 88 [.code C90_0] ρ [] aw (RR prog f90 88 sh90 Q E) := by
  unfold S90_0 at H
  refine ago_seqE E90_0 ?_
  refine ago_regE E90_1 (l := [0]) rfl ?_
  refine lk (dt := some 6) R90_0_N rfl rfl rfl (opv_assign rfl rfl rfl) ?_
  refine aops_nil ?_
  refine ago_seqE E90_2 ?_
  refine ago_regE E90_3 (l := [0, 1]) rfl ?_
  refine lk (dt := some 9) R90_1_N rfl rfl rfl (opv_move rfl rfl h0) ?_
  refine lk_call (dt := some 10) R90_1_N rfl rfl rfl (opc_of rfl rfl is81 (ma_cons rfl rfl)) H (fun _ _ h => ⟨rfl, h⟩) fun r80 aw81 H => ?_
  refine aops_nil ?_
  refine ago_seqE E90_4 ?_
  refine ago_seqE E90_5 ?_
  refine ago_regE E90_6 (l := [0, 1, 2, 3, 4, 5]) rfl ?_
  refine lk (dt := some 11) R90_2_N rfl rfl rfl (opv_move rfl rfl h1) ?_
  refine lk_call (dt := some 12) R90_2_N rfl rfl rfl (opc_of rfl rfl is49 (ma_cons rfl rfl)) H (fun _ _ h => ⟨rfl, h⟩) fun r82 aw83 H => ?_
  refine lk (dt := some 13) R90_2_N rfl rfl rfl (opv_move rfl rfl rfl) ?_
  rcases Bool.eq_false_or_eq_true r82 with hb84 | hb84
  · replace H := cnd_t H hb84
    refine lk_skip (dt := some 14) R90_2_N rfl rfl ⟨_, rfl, .inl ⟨_, rfl, gq hb84 rfl⟩⟩ ?_
    refine lk_skip (dt := some 15) R90_2_N rfl rfl ⟨_, rfl, .inl ⟨_, rfl, gq hb84 rfl⟩⟩ ?_
    refine lk (dt := some 16) R90_2_N rfl rfl rfl (ov_pickT rfl rfl rfl rfl rfl hb84 rfl) ?_
    refine aops_nil ?_
    exact S90_1_ok Q E  _ m_0 a_1 b_2 true aw83 h0 h1 h2 rfl H
  · replace H := cnd_f H hb84
    refine lk (dt := some 14) R90_2_N rfl rfl ⟨_, rfl, .inl ⟨_, rfl, gq hb84 rfl⟩⟩ (opv_move rfl rfl h2) ?_
    refine lk_call (dt := some 15) R90_2_N rfl rfl ⟨_, rfl, .inl ⟨_, rfl, gq hb84 rfl⟩⟩ (opc_of rfl rfl is49 (ma_cons rfl rfl)) H (fun _ _ h => ⟨rfl, h⟩) fun r85 aw86 H => ?_
    refine lk (dt := some 16) R90_2_N rfl rfl rfl (ov_pickF rfl rfl rfl rfl rfl hb84 rfl) ?_
    refine aops_nil ?_
    exact S90_1_ok Q E  _ m_0 a_1 b_2 r85 aw86 h0 h1 h2 rfl H
theorem F90_ok {Q : Bool → AW → Prop} {E : List PanicEntry → AW → Prop} (m_0 : Value) (a_1 : Int) (b_2 : Int) (aw : AW) (H : S90_0 Q E m_0 a_1 b_2 aw) : CallP prog 90 [m_0, .int .u64 a_1, .int .u64 b_2] aw sh90 Q E :=
  callP_of func90 C90_is rfl (Nat.le_of_ble_eq_true rfl) (S90_0_ok Q E _ m_0 a_1 b_2 aw rfl rfl rfl H)
end
end Go.Proofs.Tryd
