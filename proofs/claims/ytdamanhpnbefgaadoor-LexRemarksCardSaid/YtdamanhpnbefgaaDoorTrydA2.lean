/- Printed by a program of the prover: what the Go functions of this seat do, in steps. -/
import Derived.Test.YtdamanhpnbefgaaDoorTrydA
set_option linter.unusedVariables false
namespace Go.Proofs.Tryd
open Go Go.Am Go.RowKit
/-! ### battledore/lex.token: function 18 -/
noncomputable def C18_0 : Code := bodyOf f18
theorem C18_is : f18.body = some C18_0 := by kernel_rfl
noncomputable def C18_1 : Code := cl C18_0
noncomputable def R18_0 : Array Oper := regOps C18_1
noncomputable def C18_2 : Code := cr C18_0
noncomputable def C18_3 : Code := cl C18_2
noncomputable def R18_1 : Array Oper := regOps C18_3
noncomputable def C18_4 : Code := cr C18_2
noncomputable def C18_5 : Code := cl C18_4
noncomputable def R18_2 : Array Oper := regOps C18_5
noncomputable def C18_6 : Code := cr C18_4
noncomputable def C18_7 : Code := cl C18_6
noncomputable def C18_8 : Code := cl C18_7
noncomputable def C18_9 : Code := cl C18_8
noncomputable def C18_10 : Code := cl C18_9
noncomputable def R18_3 : Array Oper := regOps C18_10
noncomputable def C18_11 : Code := cr C18_9
noncomputable def C18_12 : Code := cl C18_11
noncomputable def C18_13 : Code := cr C18_11
noncomputable def C18_14 : Code := cl C18_13
noncomputable def R18_4 : Array Oper := regOps C18_14
noncomputable def C18_15 : Code := cr C18_13
noncomputable def C18_16 : Code := cl C18_15
noncomputable def C18_17 : Code := cr C18_15
noncomputable def R18_5 : Array Oper := regOps C18_17
noncomputable def C18_18 : Code := cr C18_8
noncomputable def C18_19 : Code := cl C18_18
noncomputable def C18_20 : Code := cl C18_19
noncomputable def C18_21 : Code := cl C18_20
noncomputable def C18_22 : Code := cl C18_21
noncomputable def C18_23 : Code := cl C18_22
noncomputable def C18_24 : Code := cl C18_23
noncomputable def R18_6 : Array Oper := regOps C18_24
noncomputable def C18_25 : Code := cr C18_23
noncomputable def C18_26 : Code := cl C18_25
noncomputable def C18_27 : Code := cr C18_25
noncomputable def C18_28 : Code := cr C18_22
noncomputable def C18_29 : Code := cl C18_28
noncomputable def R18_7 : Array Oper := regOps C18_29
noncomputable def C18_30 : Code := cr C18_19
noncomputable def C18_31 : Code := cl C18_30
noncomputable def R18_8 : Array Oper := regOps C18_31
noncomputable def C18_32 : Code := cr C18_30
noncomputable def C18_33 : Code := cr C18_18
noncomputable def C18_34 : Code := cl C18_33
noncomputable def R18_9 : Array Oper := regOps C18_34
noncomputable def C18_35 : Code := cr C18_33
noncomputable def C18_36 : Code := cl C18_35
noncomputable def C18_37 : Code := cl C18_36
noncomputable def C18_38 : Code := cl C18_37
noncomputable def C18_39 : Code := cl C18_38
noncomputable def C18_40 : Code := cl C18_39
noncomputable def C18_41 : Code := cl C18_40
noncomputable def R18_10 : Array Oper := regOps C18_41
noncomputable def C18_42 : Code := cr C18_40
noncomputable def C18_43 : Code := cl C18_42
noncomputable def C18_44 : Code := cr C18_42
noncomputable def C18_45 : Code := cr C18_39
noncomputable def C18_46 : Code := cl C18_45
noncomputable def R18_11 : Array Oper := regOps C18_46
noncomputable def C18_47 : Code := cr C18_36
noncomputable def C18_48 : Code := cl C18_47
noncomputable def C18_49 : Code := cl C18_48
noncomputable def R18_12 : Array Oper := regOps C18_49
noncomputable def C18_50 : Code := cr C18_48
noncomputable def C18_51 : Code := cl C18_50
noncomputable def C18_52 : Code := cl C18_51
noncomputable def R18_13 : Array Oper := regOps C18_52
noncomputable def C18_53 : Code := cr C18_51
noncomputable def C18_54 : Code := cr C18_50
noncomputable def C18_55 : Code := cr C18_47
noncomputable def C18_56 : Code := cl C18_55
noncomputable def C18_57 : Code := cl C18_56
noncomputable def R18_14 : Array Oper := regOps C18_57
noncomputable def C18_58 : Code := cr C18_56
noncomputable def C18_59 : Code := cl C18_58
noncomputable def R18_15 : Array Oper := regOps C18_59
noncomputable def C18_60 : Code := cr C18_58
noncomputable def C18_61 : Code := cl C18_60
noncomputable def C18_62 : Code := cl C18_61
noncomputable def R18_16 : Array Oper := regOps C18_62
noncomputable def C18_63 : Code := cr C18_61
noncomputable def C18_64 : Code := cr C18_60
noncomputable def C18_65 : Code := cr C18_55
noncomputable def C18_66 : Code := cl C18_65
noncomputable def R18_17 : Array Oper := regOps C18_66
noncomputable def C18_67 : Code := cr C18_65
noncomputable def C18_68 : Code := cr C18_35
noncomputable def C18_69 : Code := cl C18_68
noncomputable def R18_18 : Array Oper := regOps C18_69
noncomputable def C18_70 : Code := cr C18_68
noncomputable def C18_71 : Code := cl C18_70
noncomputable def C18_72 : Code := cl C18_71
noncomputable def R18_19 : Array Oper := regOps C18_72
noncomputable def C18_73 : Code := cr C18_71
noncomputable def C18_74 : Code := cr C18_70
noncomputable def C18_75 : Code := cr C18_6
noncomputable def C18_76 : Code := cl C18_75
noncomputable def C18_77 : Code := cl C18_76
noncomputable def R18_20 : Array Oper := regOps C18_77
noncomputable def C18_78 : Code := cr C18_76
noncomputable def C18_79 : Code := cl C18_78
noncomputable def C18_80 : Code := cl C18_79
noncomputable def C18_81 : Code := cl C18_80
noncomputable def R18_21 : Array Oper := regOps C18_81
noncomputable def C18_82 : Code := cr C18_80
noncomputable def C18_83 : Code := cl C18_82
noncomputable def C18_84 : Code := cl C18_83
noncomputable def C18_85 : Code := cr C18_83
noncomputable def C18_86 : Code := cr C18_82
noncomputable def C18_87 : Code := cl C18_86
noncomputable def C18_88 : Code := cl C18_87
noncomputable def C18_89 : Code := cl C18_88
noncomputable def R18_22 : Array Oper := regOps C18_89
noncomputable def C18_90 : Code := cr C18_88
noncomputable def C18_91 : Code := cl C18_90
noncomputable def R18_23 : Array Oper := regOps C18_91
noncomputable def C18_92 : Code := cr C18_90
noncomputable def C18_93 : Code := cl C18_92
noncomputable def C18_94 : Code := cl C18_93
noncomputable def R18_24 : Array Oper := regOps C18_94
noncomputable def C18_95 : Code := cr C18_93
noncomputable def C18_96 : Code := cr C18_92
noncomputable def C18_97 : Code := cr C18_86
noncomputable def R18_25 : Array Oper := regOps C18_97
noncomputable def C18_98 : Code := cr C18_75
noncomputable def C18_99 : Code := cl C18_98
noncomputable def R18_26 : Array Oper := regOps C18_99
noncomputable def C18_100 : Code := cr C18_98
theorem R18_0_N : dstsOk 110 R18_0 = true := by decide +kernel
theorem E18_1 : C18_1 = .region 0 R18_0 false := rfl
theorem R18_1_N : dstsOk 110 R18_1 = true := by decide +kernel
theorem E18_3 : C18_3 = .region 1 R18_1 false := rfl
theorem R18_2_N : dstsOk 110 R18_2 = true := by decide +kernel
theorem E18_5 : C18_5 = .region 2 R18_2 false := rfl
theorem R18_3_N : dstsOk 110 R18_3 = true := by decide +kernel
theorem E18_10 : C18_10 = .region 3 R18_3 false := rfl
theorem E18_12 : C18_12 = .skip := rfl
theorem R18_4_N : dstsOk 110 R18_4 = true := by decide +kernel
theorem E18_14 : C18_14 = .region 4 R18_4 false := rfl
theorem E18_16 : C18_16 = .skip := rfl
theorem R18_5_N : dstsOk 110 R18_5 = true := by decide +kernel
theorem E18_17 : C18_17 = .region 5 R18_5 false := rfl
theorem E18_15 : C18_15 = .cond (.tmp 14) C18_16 C18_17 := rfl
theorem E18_13 : C18_13 = .seq C18_14 C18_15 := rfl
theorem E18_11 : C18_11 = .cond (.tmp 14) C18_12 C18_13 := rfl
theorem E18_9 : C18_9 = .seq C18_10 C18_11 := rfl
theorem R18_6_N : dstsOk 110 R18_6 = true := by decide +kernel
theorem E18_24 : C18_24 = .region 6 R18_6 false := rfl
theorem E18_26 : C18_26 = .skip := rfl
theorem E18_27 : C18_27 = .exit 1 := rfl
theorem E18_25 : C18_25 = .cond (.tmp 30) C18_26 C18_27 := rfl
theorem E18_23 : C18_23 = .seq C18_24 C18_25 := rfl
theorem R18_7_N : dstsOk 110 R18_7 = true := by decide +kernel
theorem E18_29 : C18_29 = .region 7 R18_7 false := rfl
theorem E18_28 : C18_28 = .block 2 C18_29 := rfl
theorem E18_22 : C18_22 = .seq C18_23 C18_28 := rfl
theorem E18_21 : C18_21 = .loop C18_22 := rfl
theorem E18_20 : C18_20 = .block 1 C18_21 := rfl
theorem R18_8_N : dstsOk 110 R18_8 = true := by decide +kernel
theorem E18_31 : C18_31 = .region 8 R18_8 false := rfl
theorem E18_32 : C18_32 = .ret := rfl
theorem E18_30 : C18_30 = .seq C18_31 C18_32 := rfl
theorem E18_19 : C18_19 = .seq C18_20 C18_30 := rfl
theorem R18_9_N : dstsOk 110 R18_9 = true := by decide +kernel
theorem E18_34 : C18_34 = .region 9 R18_9 false := rfl
theorem R18_10_N : dstsOk 110 R18_10 = true := by decide +kernel
theorem E18_41 : C18_41 = .region 10 R18_10 false := rfl
theorem E18_43 : C18_43 = .skip := rfl
theorem E18_44 : C18_44 = .exit 3 := rfl
theorem E18_42 : C18_42 = .cond (.tmp 54) C18_43 C18_44 := rfl
theorem E18_40 : C18_40 = .seq C18_41 C18_42 := rfl
theorem R18_11_N : dstsOk 110 R18_11 = true := by decide +kernel
theorem E18_46 : C18_46 = .region 11 R18_11 false := rfl
theorem E18_45 : C18_45 = .block 4 C18_46 := rfl
theorem E18_39 : C18_39 = .seq C18_40 C18_45 := rfl
theorem E18_38 : C18_38 = .loop C18_39 := rfl
theorem E18_37 : C18_37 = .block 3 C18_38 := rfl
theorem R18_12_N : dstsOk 110 R18_12 = true := by decide +kernel
theorem E18_49 : C18_49 = .region 12 R18_12 false := rfl
theorem R18_13_N : dstsOk 110 R18_13 = true := by decide +kernel
theorem E18_52 : C18_52 = .region 13 R18_13 false := rfl
theorem E18_53 : C18_53 = .ret := rfl
theorem E18_51 : C18_51 = .seq C18_52 C18_53 := rfl
theorem E18_54 : C18_54 = .skip := rfl
theorem E18_50 : C18_50 = .cond (.tmp 66) C18_51 C18_54 := rfl
theorem E18_48 : C18_48 = .seq C18_49 C18_50 := rfl
theorem R18_14_N : dstsOk 110 R18_14 = true := by decide +kernel
theorem E18_57 : C18_57 = .region 14 R18_14 false := rfl
theorem R18_15_N : dstsOk 110 R18_15 = true := by decide +kernel
theorem E18_59 : C18_59 = .region 15 R18_15 false := rfl
theorem R18_16_N : dstsOk 110 R18_16 = true := by decide +kernel
theorem E18_62 : C18_62 = .region 16 R18_16 false := rfl
theorem E18_63 : C18_63 = .ret := rfl
theorem E18_61 : C18_61 = .seq C18_62 C18_63 := rfl
theorem E18_64 : C18_64 = .skip := rfl
theorem E18_60 : C18_60 = .cond (.tmp 81) C18_61 C18_64 := rfl
theorem E18_58 : C18_58 = .seq C18_59 C18_60 := rfl
theorem E18_56 : C18_56 = .seq C18_57 C18_58 := rfl
theorem R18_17_N : dstsOk 110 R18_17 = true := by decide +kernel
theorem E18_66 : C18_66 = .region 17 R18_17 false := rfl
theorem E18_67 : C18_67 = .ret := rfl
theorem E18_65 : C18_65 = .seq C18_66 C18_67 := rfl
theorem E18_55 : C18_55 = .seq C18_56 C18_65 := rfl
theorem E18_47 : C18_47 = .seq C18_48 C18_55 := rfl
theorem E18_36 : C18_36 = .seq C18_37 C18_47 := rfl
theorem R18_18_N : dstsOk 110 R18_18 = true := by decide +kernel
theorem E18_69 : C18_69 = .region 18 R18_18 false := rfl
theorem R18_19_N : dstsOk 110 R18_19 = true := by decide +kernel
theorem E18_72 : C18_72 = .region 19 R18_19 false := rfl
theorem E18_73 : C18_73 = .ret := rfl
theorem E18_71 : C18_71 = .seq C18_72 C18_73 := rfl
theorem E18_74 : C18_74 = .skip := rfl
theorem E18_70 : C18_70 = .cond (.tmp 88) C18_71 C18_74 := rfl
theorem E18_68 : C18_68 = .seq C18_69 C18_70 := rfl
theorem E18_35 : C18_35 = .cond (.tmp 42) C18_36 C18_68 := rfl
theorem E18_33 : C18_33 = .seq C18_34 C18_35 := rfl
theorem E18_18 : C18_18 = .cond (.tmp 14) C18_19 C18_33 := rfl
theorem E18_8 : C18_8 = .seq C18_9 C18_18 := rfl
theorem E18_7 : C18_7 = .block 0 C18_8 := rfl
theorem R18_20_N : dstsOk 110 R18_20 = true := by decide +kernel
theorem E18_77 : C18_77 = .region 20 R18_20 false := rfl
theorem R18_21_N : dstsOk 110 R18_21 = true := by decide +kernel
theorem E18_81 : C18_81 = .region 21 R18_21 false := rfl
theorem E18_84 : C18_84 = .skip := rfl
theorem E18_85 : C18_85 = .exit 5 := rfl
theorem E18_83 : C18_83 = .cond (.tmp 99) C18_84 C18_85 := rfl
theorem R18_22_N : dstsOk 110 R18_22 = true := by decide +kernel
theorem E18_89 : C18_89 = .region 22 R18_22 false := rfl
theorem R18_23_N : dstsOk 110 R18_23 = true := by decide +kernel
theorem E18_91 : C18_91 = .region 23 R18_23 false := rfl
theorem R18_24_N : dstsOk 110 R18_24 = true := by decide +kernel
theorem E18_94 : C18_94 = .region 24 R18_24 false := rfl
theorem E18_95 : C18_95 = .ret := rfl
theorem E18_93 : C18_93 = .seq C18_94 C18_95 := rfl
theorem E18_96 : C18_96 = .skip := rfl
theorem E18_92 : C18_92 = .cond (.tmp 103) C18_93 C18_96 := rfl
theorem E18_90 : C18_90 = .seq C18_91 C18_92 := rfl
theorem E18_88 : C18_88 = .seq C18_89 C18_90 := rfl
theorem E18_87 : C18_87 = .block 6 C18_88 := rfl
theorem R18_25_N : dstsOk 110 R18_25 = true := by decide +kernel
theorem E18_97 : C18_97 = .region 25 R18_25 false := rfl
theorem E18_86 : C18_86 = .seq C18_87 C18_97 := rfl
theorem E18_82 : C18_82 = .seq C18_83 C18_86 := rfl
theorem E18_80 : C18_80 = .seq C18_81 C18_82 := rfl
theorem E18_79 : C18_79 = .loop C18_80 := rfl
theorem E18_78 : C18_78 = .block 5 C18_79 := rfl
theorem E18_76 : C18_76 = .seq C18_77 C18_78 := rfl
theorem R18_26_N : dstsOk 110 R18_26 = true := by decide +kernel
theorem E18_99 : C18_99 = .region 26 R18_26 false := rfl
theorem E18_100 : C18_100 = .ret := rfl
theorem E18_98 : C18_98 = .seq C18_99 C18_100 := rfl
theorem E18_75 : C18_75 = .seq C18_76 C18_98 := rfl
theorem E18_6 : C18_6 = .seq C18_7 C18_75 := rfl
theorem E18_4 : C18_4 = .seq C18_5 C18_6 := rfl
theorem E18_2 : C18_2 = .seq C18_3 C18_4 := rfl
theorem E18_0 : C18_0 = .seq C18_1 C18_2 := rfl
def S18_6s (Q : (Int × ByteArray × Int × Int × Int × Int) → AW → Prop) (E : List PanicEntry → AW → Prop)  (nx6 : ByteArray → Value → Int → AW → Prop) (s_0 : ByteArray) (t_2 : Value) (n_7 : Int) (aw : AW) : Prop :=
  cnd (decide (n_7 < (s_0.size : Int))) (chr s_0 n_7 fun c2 =>
  CallP prog 23 [.int .u8 c2] aw sh23 (fun r6 aw7 =>
  cnd r6 (nx6 s_0 t_2 (IntKind.i64.wrap (n_7 + 1)) aw7) (cutS s_0 0 n_7 fun s9 =>
  CallP prog 24 [.string s9, .int .i64 n_7] aw7 sh24 (fun r14 aw15 =>
  st aw15 t_2 [.int .u8 r14.1, .string r14.2.1, .int .i64 r14.2.2.1] fun aw16 =>
  ∃ b23 i24 c26 c27 c28, t_2 = .pointer (some ⟨b23, i24, none⟩) ∧ aw16.get b23 i24 = some (.int .u8 c26) ∧ aw16.get b23 (i24 + 1) = some (.string c27) ∧ aw16.get b23 (i24 + 2) = some (.int .i64 c28) ∧ Q (c26, c27, c28, r14.2.2.2.1, r14.2.2.2.2.1, r14.2.2.2.2.2) aw16) E)) E) (cutS s_0 0 n_7 fun s33 =>
  CallP prog 24 [.string s33, .int .i64 n_7] aw sh24 (fun r38 aw39 =>
  st aw39 t_2 [.int .u8 r38.1, .string r38.2.1, .int .i64 r38.2.2.1] fun aw40 =>
  ∃ b47 i48 c50 c51 c52, t_2 = .pointer (some ⟨b47, i48, none⟩) ∧ aw40.get b47 i48 = some (.int .u8 c50) ∧ aw40.get b47 (i48 + 1) = some (.string c51) ∧ aw40.get b47 (i48 + 2) = some (.int .i64 c52) ∧ Q (c50, c51, c52, r38.2.2.2.1, r38.2.2.2.2.1, r38.2.2.2.2.2) aw40) E)
def S18_6 (Q : (Int × ByteArray × Int × Int × Int × Int) → AW → Prop) (E : List PanicEntry → AW → Prop)  : Nat → ByteArray → Value → Int → AW → Prop
  | 0 => fun _ _ _ _ => False
  | n + 1 => S18_6s Q E  (S18_6 Q E  n)
def S18_5 (Q : (Int × ByteArray × Int × Int × Int × Int) → AW → Prop) (E : List PanicEntry → AW → Prop)  (s_0 : ByteArray) (t_2 : Value) (n_7 : Int) (t_66 : Bool) (aw : AW) : Prop :=
  cnd t_66 (st aw t_2 [.int .u8 0, .string (⟨#[]⟩ : ByteArray), .int .i64 0] fun aw57 =>
  ∃ b64 i65 c67 c68 c69, t_2 = .pointer (some ⟨b64, i65, none⟩) ∧ aw57.get b64 i65 = some (.int .u8 c67) ∧ aw57.get b64 (i65 + 1) = some (.string c68) ∧ aw57.get b64 (i65 + 2) = some (.int .i64 c69) ∧ Q (c67, c68, c69, 0, n_7, 4) aw57) (cutS s_0 0 n_7 fun s73 =>
  CallP prog 26 [.string s73, .int .i64 10, .int .i64 64] aw sh26 (fun r78 aw79 =>
  nilB (.interface #[("Error", 56)]) r78.2 (.nilIface ) fun q80 =>
  cnd (!q80) (st aw79 t_2 [.int .u8 0, .string (⟨#[]⟩ : ByteArray), .int .i64 0] fun aw85 =>
  ∃ b92 i93 c95 c96 c97, t_2 = .pointer (some ⟨b92, i93, none⟩) ∧ aw85.get b92 i93 = some (.int .u8 c95) ∧ aw85.get b92 (i93 + 1) = some (.string c96) ∧ aw85.get b92 (i93 + 2) = some (.int .i64 c97) ∧ Q (c95, c96, c97, 0, 0, 1) aw85) (cnd (decide (4611686018427387904 ≤ r78.1)) (st aw79 t_2 [.int .u8 0, .string (⟨#[]⟩ : ByteArray), .int .i64 0] fun aw102 =>
  ∃ b109 i110 c112 c113 c114, t_2 = .pointer (some ⟨b109, i110, none⟩) ∧ aw102.get b109 i110 = some (.int .u8 c112) ∧ aw102.get b109 (i110 + 1) = some (.string c113) ∧ aw102.get b109 (i110 + 2) = some (.int .i64 c114) ∧ Q (c112, c113, c114, 0, 0, 1) aw102) (cutS s_0 0 n_7 fun s118 =>
  st aw79 t_2 [.int .u8 4, .string s118, .int .i64 0] fun aw123 =>
  ∃ b130 i131 c133 c134 c135, t_2 = .pointer (some ⟨b130, i131, none⟩) ∧ aw123.get b130 i131 = some (.int .u8 c133) ∧ aw123.get b130 (i131 + 1) = some (.string c134) ∧ aw123.get b130 (i131 + 2) = some (.int .i64 c135) ∧ Q (c133, c134, c135, n_7, 0, 0) aw123))) E)
def S18_4 (Q : (Int × ByteArray × Int × Int × Int × Int) → AW → Prop) (E : List PanicEntry → AW → Prop) (nx3 : ByteArray → Value → Int → AW → Prop) (s_0 : ByteArray) (t_2 : Value) (n_7 : Int) (t_54 : Bool) (aw : AW) : Prop :=
  cnd t_54 (nx3 s_0 t_2 (IntKind.i64.wrap (n_7 + 1)) aw) (cnd (decide (n_7 < (s_0.size : Int))) (chr s_0 n_7 fun c141 =>
  CallP prog 23 [.int .u8 c141] aw sh23 (fun r145 aw146 =>
  S18_5 Q E  s_0 t_2 n_7 r145 aw146) E) (S18_5 Q E  s_0 t_2 n_7 false aw))
def S18_3s (Q : (Int × ByteArray × Int × Int × Int × Int) → AW → Prop) (E : List PanicEntry → AW → Prop)  (nx3 : ByteArray → Value → Int → AW → Prop) (s_0 : ByteArray) (t_2 : Value) (n_7 : Int) (aw : AW) : Prop :=
  cnd (decide (n_7 < (s_0.size : Int))) (chr s_0 n_7 fun c148 =>
  CallP prog 25 [.int .u8 c148] aw sh25 (fun r152 aw153 =>
  S18_4 Q E nx3 s_0 t_2 n_7 r152 aw153) E) (S18_4 Q E nx3 s_0 t_2 n_7 false aw)
def S18_3 (Q : (Int × ByteArray × Int × Int × Int × Int) → AW → Prop) (E : List PanicEntry → AW → Prop)  : Nat → ByteArray → Value → Int → AW → Prop
  | 0 => fun _ _ _ _ => False
  | n + 1 => S18_3s Q E  (S18_3 Q E  n)
def S18_2s (Q : (Int × ByteArray × Int × Int × Int × Int) → AW → Prop) (E : List PanicEntry → AW → Prop)  (nx2 : ByteArray → Value → List Value → Int → AW → Prop) (s_0 : ByteArray) (t_2 : Value) (t_97 : List Value) (t_98 : Int) (aw : AW) : Prop :=
  cnd (decide (t_98 < 24)) (elS 24 t_97 t_98 fun c155 =>
  CallP prog 16 [.string s_0, .string c155] aw sh16 (fun r160 aw161 =>
  cnd r160 (st aw161 t_2 [.int .u8 7, .string c155, .int .i64 0] fun aw163 =>
  ∃ b170 i171 c173 c174 c175, t_2 = .pointer (some ⟨b170, i171, none⟩) ∧ aw163.get b170 i171 = some (.int .u8 c173) ∧ aw163.get b170 (i171 + 1) = some (.string c174) ∧ aw163.get b170 (i171 + 2) = some (.int .i64 c175) ∧ Q (c173, c174, c175, (c155.size : Int), 0, 0) aw163) (nx2 s_0 t_2 t_97 (IntKind.i64.wrap (t_98 + 1)) aw161)) E) (st aw t_2 [.int .u8 0, .string (⟨#[]⟩ : ByteArray), .int .i64 0] fun aw179 =>
  ∃ b186 i187 c189 c190 c191, t_2 = .pointer (some ⟨b186, i187, none⟩) ∧ aw179.get b186 i187 = some (.int .u8 c189) ∧ aw179.get b186 (i187 + 1) = some (.string c190) ∧ aw179.get b186 (i187 + 2) = some (.int .i64 c191) ∧ Q (c189, c190, c191, 0, 0, 4) aw179)
def S18_2 (Q : (Int × ByteArray × Int × Int × Int × Int) → AW → Prop) (E : List PanicEntry → AW → Prop)  : Nat → ByteArray → Value → List Value → Int → AW → Prop
  | 0 => fun _ _ _ _ _ => False
  | n + 1 => S18_2s Q E  (S18_2 Q E  n)
def S18_1 (Q : (Int × ByteArray × Int × Int × Int × Int) → AW → Prop) (E : List PanicEntry → AW → Prop)  (s_0 : ByteArray) (t_2 : Value) (c_6 : Int) (n_7 : Int) (t_14 : Bool) (aw : AW) : Prop :=
  cnd t_14 (∃ n, S18_6 Q E  n s_0 t_2 n_7 aw) (CallP prog 25 [.int .u8 c_6] aw sh25 (fun r196 aw197 =>
  cnd r196 (∃ n, S18_3 Q E  n s_0 t_2 n_7 aw197) (cnd (decide (c_6 = 34)) (CallP prog 27 [.string s_0] aw197 sh27 (fun r200 aw201 =>
  st aw201 t_2 [.int .u8 r200.1, .string r200.2.1, .int .i64 r200.2.2.1] fun aw202 =>
  ∃ b209 i210 c212 c213 c214, t_2 = .pointer (some ⟨b209, i210, none⟩) ∧ aw202.get b209 i210 = some (.int .u8 c212) ∧ aw202.get b209 (i210 + 1) = some (.string c213) ∧ aw202.get b209 (i210 + 2) = some (.int .i64 c214) ∧ Q (c212, c213, c214, r200.2.2.2.1, r200.2.2.2.2.1, r200.2.2.2.2.2) aw202) E) (ldN 24 aw197 (.pointer (some ⟨0, 0, none⟩)) fun x221 =>
  ∃ n, S18_2 Q E  n s_0 t_2 x221 0 aw197))) E)
def S18_0 (Q : (Int × ByteArray × Int × Int × Int × Int) → AW → Prop) (E : List PanicEntry → AW → Prop)  (s_0 : ByteArray) (aw : AW) : Prop :=
  alc aw [.int .u8 0, .string (⟨#[]⟩ : ByteArray), .int .i64 0] 33 0 fun p223 aw224 =>
  chr s_0 0 fun c227 =>
  CallP prog 21 [.int .u8 c227] aw224 sh21 (fun r231 aw232 =>
  cnd r231 (S18_1 Q E  s_0 p223 c227 1 r231 aw232) (CallP prog 22 [.int .u8 c227] aw232 sh22 (fun r234 aw235 =>
  cnd r234 (S18_1 Q E  s_0 p223 c227 1 r234 aw235) (S18_1 Q E  s_0 p223 c227 1 (decide (c227 = 39)) aw235)) E)) E
set_option maxHeartbeats 4000000 in
set_option maxRecDepth 100000 in
theorem S18_6s_ok (Q : (Int × ByteArray × Int × Int × Int × Int) → AW → Prop) (E : List PanicEntry → AW → Prop)  (nx6 : ByteArray → Value → Int → AW → Prop) (L6 : ∀ (ρ : Env) (s_0 : ByteArray) (t_2 : Value) (n_7 : Int) (aw : AW) (h0 : ρ 0 = .string s_0) (h2 : ρ 2 = t_2) (h7 : ρ 7 = .int .i64 n_7), nx6 s_0 t_2 n_7 aw → AGo prog 110 [.code C18_22, .inLoop C18_22, .inBlock 1, .code C18_30, .inBlock 0, .code C18_75] ρ [] aw (RR prog f18 110 sh18 Q E)) (ρ : Env) (s_0 : ByteArray) (t_2 : Value) (n_7 : Int) (aw : AW) (h0 : ρ 0 = .string s_0) (h2 : ρ 2 = t_2) (h7 : ρ 7 = .int .i64 n_7) (H : S18_6s Q E  nx6 s_0 t_2 n_7 aw) :
    AGo prog 110 [.code C18_22, .inLoop C18_22, .inBlock 1, .code C18_30, .inBlock 0, .code C18_75] ρ [] aw (RR prog f18 110 sh18 Q E) := by
  unfold S18_6s at H
  refine ago_seqE E18_22 ?_
  refine ago_seqE E18_23 ?_
  refine ago_regE E18_24 (l := [0, 1, 2, 3, 4, 5, 6, 7, 8, 9]) rfl ?_
  refine lk (dt := some 21) R18_6_N rfl rfl rfl (opv_move rfl rfl h7) ?_
  refine lk (dt := some 22) R18_6_N rfl rfl rfl (opv_move rfl rfl h0) ?_
  refine lk (dt := some 23) R18_6_N rfl rfl rfl (opv_lenS rfl rfl rfl underlying9 rfl) ?_
  refine lk (dt := some 24) R18_6_N rfl rfl rfl (opv_lt rfl rfl rfl rfl rfl) ?_
  refine lk (dt := some 25) R18_6_N rfl rfl rfl (opv_move rfl rfl rfl) ?_
  rcases Bool.eq_false_or_eq_true (decide (n_7 < (s_0.size : Int))) with hb1 | hb1
  · replace H := cnd_t H hb1
    refine lk (dt := some 26) R18_6_N rfl rfl ⟨_, rfl, .inl ⟨_, rfl, gq hb1 rfl⟩⟩ (opv_move rfl rfl h0) ?_
    refine lk (dt := some 27) R18_6_N rfl rfl ⟨_, rfl, .inl ⟨_, rfl, gq hb1 rfl⟩⟩ (opv_move rfl rfl h7) ?_
    obtain ⟨c2, h03, hj4, hv5, H⟩ := H
    refine lk (dt := some 28) R18_6_N rfl rfl ⟨_, rfl, .inl ⟨_, rfl, gq hb1 rfl⟩⟩ (ov_chr rfl rfl rfl underlying9 rfl rfl h03 hj4 hv5) ?_
    refine lk_call (dt := some 29) R18_6_N rfl rfl ⟨_, rfl, .inl ⟨_, rfl, gq hb1 rfl⟩⟩ (opc_of rfl rfl is23 (ma_cons rfl rfl)) H (fun _ _ h => ⟨rfl, h⟩) fun r6 aw7 H => ?_
    refine lk (dt := some 30) R18_6_N rfl rfl rfl (ov_pickT rfl rfl rfl rfl rfl hb1 rfl) ?_
    refine aops_nil ?_
    refine ago_condE  E18_25 rfl rfl (fun hb8 => ?_) (fun hb8 => ?_)
    · replace H := cnd_t H hb8
      refine ago_skipE E18_26 ?_
      refine ago_blockE E18_28 ?_
      refine ago_regE E18_29 (l := [0, 1, 2]) rfl ?_
      refine lk (dt := some 31) R18_7_N rfl rfl rfl (opv_move rfl rfl h7) ?_
      refine lk (dt := some 32) R18_7_N rfl rfl rfl (opv_add rfl rfl rfl rfl rfl) ?_
      refine lk (dt := some 7) R18_7_N rfl rfl rfl (opv_assign rfl rfl rfl) ?_
      refine aops_nil ?_
      refine ago_inBlock ?_
      refine ago_inLoop ?_
      exact L6 _ s_0 t_2 (IntKind.i64.wrap (n_7 + 1)) aw7 h0 h2 rfl H
    · replace H := cnd_f H hb8
      refine ago_exitE E18_27 rfl ?_
      refine ago_seqE E18_30 ?_
      refine ago_regE E18_31 (l := [0, 1, 2, 3, 4, 5, 6, 7, 8, 9, 10, 11, 12]) rfl ?_
      refine lk (dt := some 33) R18_8_N rfl rfl rfl (opv_move rfl rfl h0) ?_
      refine lk (dt := some 34) R18_8_N rfl rfl rfl (opv_move rfl rfl h7) ?_
      obtain ⟨s9, hq10, hq11, hq12, hq13, H⟩ := H
      refine lk (dt := some 35) R18_8_N rfl rfl rfl (ov_cutS rfl rfl underlying9 rfl (bndN _ _ _) (bndS rfl) hq10 hq11 hq12 hq13) ?_
      refine lk (dt := some 36) R18_8_N rfl rfl rfl (opv_move rfl rfl h7) ?_
      refine lk_call (dt := some 37) R18_8_N rfl rfl rfl (opc_of rfl rfl is24 (ma_cons rfl (ma_cons rfl rfl))) H (fun _ _ h => ⟨rfl, h⟩) fun r14 aw15 H => ?_
      refine lk (dt := some 38) R18_8_N rfl rfl rfl (opv_extract rfl rfl rfl rfl) ?_
      refine lk (dt := some 39) R18_8_N rfl rfl rfl (opv_extract rfl rfl rfl rfl) ?_
      refine lk (dt := some 40) R18_8_N rfl rfl rfl (opv_extract rfl rfl rfl rfl) ?_
      refine lk (dt := some 41) R18_8_N rfl rfl rfl (opv_extract rfl rfl rfl rfl) ?_
      obtain ⟨b17, i18, aw16, hp19, hw20, ho21, ha22, H⟩ := H
      refine lk (dt := none) R18_8_N rfl rfl rfl (ov_st rfl rfl rfl h2 rfl rfl sz33 hp19 hw20 ho21 ha22) ?_
      refine lk (dt := some 3) R18_8_N rfl rfl rfl (opv_assign rfl rfl rfl) ?_
      refine lk (dt := some 4) R18_8_N rfl rfl rfl (opv_assign rfl rfl rfl) ?_
      refine lk (dt := some 5) R18_8_N rfl rfl rfl (opv_assign rfl rfl rfl) ?_
      refine aops_nil ?_
      obtain ⟨b23, i24, c26, c27, c28, hp25, hg29, hg30, hg31, H⟩ := H
      exact ago_retE E18_32 (r := (c26, c27, c28, r14.2.2.2.1, r14.2.2.2.2.1, r14.2.2.2.2.2)) (ares_4 rfl (oneN h2 hp25 underlying33 rfl sz33 (getN_cons hg29 (getN_cons hg30 (getN_cons hg31 getN_nil)))) (oneT rfl) (oneT rfl) (oneT rfl)) rfl H
  · replace H := cnd_f H hb1
    refine lk_skip (dt := some 26) R18_6_N rfl rfl ⟨_, rfl, .inl ⟨_, rfl, gq hb1 rfl⟩⟩ ?_
    refine lk_skip (dt := some 27) R18_6_N rfl rfl ⟨_, rfl, .inl ⟨_, rfl, gq hb1 rfl⟩⟩ ?_
    refine lk_skip (dt := some 28) R18_6_N rfl rfl ⟨_, rfl, .inl ⟨_, rfl, gq hb1 rfl⟩⟩ ?_
    refine lk_skip (dt := some 29) R18_6_N rfl rfl ⟨_, rfl, .inl ⟨_, rfl, gq hb1 rfl⟩⟩ ?_
    refine lk (dt := some 30) R18_6_N rfl rfl rfl (ov_pickF rfl rfl rfl rfl rfl hb1 rfl) ?_
    refine aops_nil ?_
    refine ago_condE  E18_25 rfl rfl (fun h => ft h) (fun h => ?_)
    refine ago_exitE E18_27 rfl ?_
    refine ago_seqE E18_30 ?_
    refine ago_regE E18_31 (l := [0, 1, 2, 3, 4, 5, 6, 7, 8, 9, 10, 11, 12]) rfl ?_
    refine lk (dt := some 33) R18_8_N rfl rfl rfl (opv_move rfl rfl h0) ?_
    refine lk (dt := some 34) R18_8_N rfl rfl rfl (opv_move rfl rfl h7) ?_
    obtain ⟨s33, hq34, hq35, hq36, hq37, H⟩ := H
    refine lk (dt := some 35) R18_8_N rfl rfl rfl (ov_cutS rfl rfl underlying9 rfl (bndN _ _ _) (bndS rfl) hq34 hq35 hq36 hq37) ?_
    refine lk (dt := some 36) R18_8_N rfl rfl rfl (opv_move rfl rfl h7) ?_
    refine lk_call (dt := some 37) R18_8_N rfl rfl rfl (opc_of rfl rfl is24 (ma_cons rfl (ma_cons rfl rfl))) H (fun _ _ h => ⟨rfl, h⟩) fun r38 aw39 H => ?_
    refine lk (dt := some 38) R18_8_N rfl rfl rfl (opv_extract rfl rfl rfl rfl) ?_
    refine lk (dt := some 39) R18_8_N rfl rfl rfl (opv_extract rfl rfl rfl rfl) ?_
    refine lk (dt := some 40) R18_8_N rfl rfl rfl (opv_extract rfl rfl rfl rfl) ?_
    refine lk (dt := some 41) R18_8_N rfl rfl rfl (opv_extract rfl rfl rfl rfl) ?_
    obtain ⟨b41, i42, aw40, hp43, hw44, ho45, ha46, H⟩ := H
    refine lk (dt := none) R18_8_N rfl rfl rfl (ov_st rfl rfl rfl h2 rfl rfl sz33 hp43 hw44 ho45 ha46) ?_
    refine lk (dt := some 3) R18_8_N rfl rfl rfl (opv_assign rfl rfl rfl) ?_
    refine lk (dt := some 4) R18_8_N rfl rfl rfl (opv_assign rfl rfl rfl) ?_
    refine lk (dt := some 5) R18_8_N rfl rfl rfl (opv_assign rfl rfl rfl) ?_
    refine aops_nil ?_
    obtain ⟨b47, i48, c50, c51, c52, hp49, hg53, hg54, hg55, H⟩ := H
    exact ago_retE E18_32 (r := (c50, c51, c52, r38.2.2.2.1, r38.2.2.2.2.1, r38.2.2.2.2.2)) (ares_4 rfl (oneN h2 hp49 underlying33 rfl sz33 (getN_cons hg53 (getN_cons hg54 (getN_cons hg55 getN_nil)))) (oneT rfl) (oneT rfl) (oneT rfl)) rfl H
theorem S18_6_ok (Q : (Int × ByteArray × Int × Int × Int × Int) → AW → Prop) (E : List PanicEntry → AW → Prop)  : ∀ (n : Nat) (ρ : Env) (s_0 : ByteArray) (t_2 : Value) (n_7 : Int) (aw : AW) (h0 : ρ 0 = .string s_0) (h2 : ρ 2 = t_2) (h7 : ρ 7 = .int .i64 n_7), S18_6 Q E  n s_0 t_2 n_7 aw →
    AGo prog 110 [.code C18_22, .inLoop C18_22, .inBlock 1, .code C18_30, .inBlock 0, .code C18_75] ρ [] aw (RR prog f18 110 sh18 Q E)
  | 0, _, _, _, _, _, _, _, _ => fun H => H.elim
  | n + 1, ρ, s_0, t_2, n_7, aw, h0, h2, h7 => fun H => S18_6s_ok Q E  _ (S18_6_ok Q E  n) ρ s_0 t_2 n_7 aw h0 h2 h7 H
set_option maxHeartbeats 4000000 in
set_option maxRecDepth 100000 in
theorem S18_5_ok (Q : (Int × ByteArray × Int × Int × Int × Int) → AW → Prop) (E : List PanicEntry → AW → Prop)  (ρ : Env) (s_0 : ByteArray) (t_2 : Value) (n_7 : Int) (t_66 : Bool) (aw : AW) (h0 : ρ 0 = .string s_0) (h2 : ρ 2 = t_2) (h7 : ρ 7 = .int .i64 n_7) (h66 : ρ 66 = .bool t_66) (H : S18_5 Q E  s_0 t_2 n_7 t_66 aw) :
    AGo prog 110 [.code C18_50, .code C18_55, .inBlock 0, .code C18_75] ρ [] aw (RR prog f18 110 sh18 Q E) := by
  unfold S18_5 at H
  refine ago_condE  E18_50 rfl h66 (fun hb56 => ?_) (fun hb56 => ?_)
  · replace H := cnd_t H hb56
    refine ago_seqE E18_51 ?_
    refine ago_regE E18_52 (l := [0, 1, 2, 3, 4, 5]) rfl ?_
    refine lk (dt := some 67) R18_13_N rfl rfl rfl (ov_bld (r := [.int .u8 0, .string (⟨#[]⟩ : ByteArray), .int .i64 0]) rfl rfl bo33 rfl (fillN rfl)) ?_
    refine lk (dt := some 68) R18_13_N rfl rfl rfl (opv_move rfl rfl h7) ?_
    obtain ⟨b58, i59, aw57, hp60, hw61, ho62, ha63, H⟩ := H
    refine lk (dt := none) R18_13_N rfl rfl rfl (ov_st rfl rfl rfl h2 rfl rfl sz33 hp60 hw61 ho62 ha63) ?_
    refine lk (dt := some 3) R18_13_N rfl rfl rfl (opv_assign rfl rfl rfl) ?_
    refine lk (dt := some 4) R18_13_N rfl rfl rfl (opv_assign rfl rfl rfl) ?_
    refine lk (dt := some 5) R18_13_N rfl rfl rfl (opv_assign rfl rfl rfl) ?_
    refine aops_nil ?_
    obtain ⟨b64, i65, c67, c68, c69, hp66, hg70, hg71, hg72, H⟩ := H
    exact ago_retE E18_53 (r := (c67, c68, c69, 0, n_7, 4)) (ares_4 rfl (oneN h2 hp66 underlying33 rfl sz33 (getN_cons hg70 (getN_cons hg71 (getN_cons hg72 getN_nil)))) (oneT rfl) (oneT rfl) (oneT rfl)) rfl H
  · replace H := cnd_f H hb56
    refine ago_skipE E18_54 ?_
    refine ago_seqE E18_55 ?_
    refine ago_seqE E18_56 ?_
    refine ago_regE E18_57 (l := [0, 1, 2, 3, 4, 5, 6, 7, 8]) rfl ?_
    refine lk (dt := some 70) R18_14_N rfl rfl rfl (opv_move rfl rfl h0) ?_
    refine lk (dt := some 71) R18_14_N rfl rfl rfl (opv_move rfl rfl h7) ?_
    obtain ⟨s73, hq74, hq75, hq76, hq77, H⟩ := H
    refine lk (dt := some 72) R18_14_N rfl rfl rfl (ov_cutS rfl rfl underlying9 rfl (bndN _ _ _) (bndS rfl) hq74 hq75 hq76 hq77) ?_
    refine lk_call (dt := some 73) R18_14_N rfl rfl rfl (opc_of rfl rfl is26 (ma_cons rfl (ma_cons rfl (ma_cons rfl rfl)))) H (fun _ _ h => ⟨rfl, h⟩) fun r78 aw79 H => ?_
    refine lk (dt := some 69) R18_14_N rfl rfl rfl (opv_move rfl rfl rfl) ?_
    refine lk (dt := some 74) R18_14_N rfl rfl rfl (opv_extract rfl rfl rfl rfl) ?_
    refine lk (dt := some 75) R18_14_N rfl rfl rfl (opv_extract rfl rfl rfl rfl) ?_
    refine lk (dt := some 8) R18_14_N rfl rfl rfl (opv_assign rfl rfl rfl) ?_
    refine lk (dt := some 9) R18_14_N rfl rfl rfl (opv_assign rfl rfl rfl) ?_
    refine aops_nil ?_
    refine ago_seqE E18_58 ?_
    refine ago_regE E18_59 (l := [0, 1, 2, 3, 4, 5]) rfl ?_
    refine lk (dt := some 76) R18_15_N rfl rfl rfl (opv_move rfl rfl rfl) ?_
    obtain ⟨q80, hf81, hq82, H⟩ := H
    refine lk (dt := some 77) R18_15_N rfl rfl rfl (ov_neNil rfl rfl underlying47 rfl hf81 hq82) ?_
    refine lk (dt := some 78) R18_15_N rfl rfl rfl (opv_move rfl rfl rfl) ?_
    rcases Bool.eq_false_or_eq_true (!q80) with hb83 | hb83
    · replace H := cnd_t H hb83
      refine lk_skip (dt := some 79) R18_15_N rfl rfl ⟨_, rfl, .inl ⟨_, rfl, gq hb83 rfl⟩⟩ ?_
      refine lk_skip (dt := some 80) R18_15_N rfl rfl ⟨_, rfl, .inl ⟨_, rfl, gq hb83 rfl⟩⟩ ?_
      refine lk (dt := some 81) R18_15_N rfl rfl rfl (ov_pickT rfl rfl rfl rfl rfl hb83 rfl) ?_
      refine aops_nil ?_
      refine ago_condE  E18_60 rfl rfl (fun h => ?_) (fun h => tf h)
      refine ago_seqE E18_61 ?_
      refine ago_cut (fun ρ => ρ 2 = t_2 ∧ True) ⟨h2, trivial⟩ (fun ρ ⟨h2, _⟩ => ?_)
      refine ago_regE E18_62 (l := [0, 1, 2, 3, 4]) rfl ?_
      refine lk (dt := some 82) R18_16_N rfl rfl rfl (ov_bld (r := [.int .u8 0, .string (⟨#[]⟩ : ByteArray), .int .i64 0]) rfl rfl bo33 rfl (fillN rfl)) ?_
      obtain ⟨b86, i87, aw85, hp88, hw89, ho90, ha91, H⟩ := H
      refine lk (dt := none) R18_16_N rfl rfl rfl (ov_st rfl rfl rfl h2 rfl rfl sz33 hp88 hw89 ho90 ha91) ?_
      refine lk (dt := some 3) R18_16_N rfl rfl rfl (opv_assign rfl rfl rfl) ?_
      refine lk (dt := some 4) R18_16_N rfl rfl rfl (opv_assign rfl rfl rfl) ?_
      refine lk (dt := some 5) R18_16_N rfl rfl rfl (opv_assign rfl rfl rfl) ?_
      refine aops_nil ?_
      obtain ⟨b92, i93, c95, c96, c97, hp94, hg98, hg99, hg100, H⟩ := H
      exact ago_retE E18_63 (r := (c95, c96, c97, 0, 0, 1)) (ares_4 rfl (oneN h2 hp94 underlying33 rfl sz33 (getN_cons hg98 (getN_cons hg99 (getN_cons hg100 getN_nil)))) (oneT rfl) (oneT rfl) (oneT rfl)) rfl H
    · replace H := cnd_f H hb83
      refine lk (dt := some 79) R18_15_N rfl rfl ⟨_, rfl, .inl ⟨_, rfl, gq hb83 rfl⟩⟩ (opv_move rfl rfl rfl) ?_
      refine lk (dt := some 80) R18_15_N rfl rfl ⟨_, rfl, .inl ⟨_, rfl, gq hb83 rfl⟩⟩ (opv_ge rfl rfl rfl rfl rfl) ?_
      refine lk (dt := some 81) R18_15_N rfl rfl rfl (ov_pickF rfl rfl rfl rfl rfl hb83 rfl) ?_
      refine aops_nil ?_
      refine ago_condE  E18_60 rfl rfl (fun hb101 => ?_) (fun hb101 => ?_)
      · replace H := cnd_t H hb101
        refine ago_seqE E18_61 ?_
        refine ago_cut (fun ρ => ρ 2 = t_2 ∧ True) ⟨h2, trivial⟩ (fun ρ ⟨h2, _⟩ => ?_)
        refine ago_regE E18_62 (l := [0, 1, 2, 3, 4]) rfl ?_
        refine lk (dt := some 82) R18_16_N rfl rfl rfl (ov_bld (r := [.int .u8 0, .string (⟨#[]⟩ : ByteArray), .int .i64 0]) rfl rfl bo33 rfl (fillN rfl)) ?_
        obtain ⟨b103, i104, aw102, hp105, hw106, ho107, ha108, H⟩ := H
        refine lk (dt := none) R18_16_N rfl rfl rfl (ov_st rfl rfl rfl h2 rfl rfl sz33 hp105 hw106 ho107 ha108) ?_
        refine lk (dt := some 3) R18_16_N rfl rfl rfl (opv_assign rfl rfl rfl) ?_
        refine lk (dt := some 4) R18_16_N rfl rfl rfl (opv_assign rfl rfl rfl) ?_
        refine lk (dt := some 5) R18_16_N rfl rfl rfl (opv_assign rfl rfl rfl) ?_
        refine aops_nil ?_
        obtain ⟨b109, i110, c112, c113, c114, hp111, hg115, hg116, hg117, H⟩ := H
        exact ago_retE E18_63 (r := (c112, c113, c114, 0, 0, 1)) (ares_4 rfl (oneN h2 hp111 underlying33 rfl sz33 (getN_cons hg115 (getN_cons hg116 (getN_cons hg117 getN_nil)))) (oneT rfl) (oneT rfl) (oneT rfl)) rfl H
      · replace H := cnd_f H hb101
        refine ago_skipE E18_64 ?_
        refine ago_seqE E18_65 ?_
        refine ago_cut (fun ρ => ρ 0 = .string s_0 ∧ ρ 2 = t_2 ∧ ρ 7 = .int .i64 n_7 ∧ True) ⟨h0, h2, h7, trivial⟩ (fun ρ ⟨h0, h2, h7, _⟩ => ?_)
        refine ago_regE E18_66 (l := [0, 1, 2, 3, 4, 5, 6, 7, 8]) rfl ?_
        refine lk (dt := some 83) R18_17_N rfl rfl rfl (opv_move rfl rfl h0) ?_
        refine lk (dt := some 84) R18_17_N rfl rfl rfl (opv_move rfl rfl h7) ?_
        obtain ⟨s118, hq119, hq120, hq121, hq122, H⟩ := H
        refine lk (dt := some 85) R18_17_N rfl rfl rfl (ov_cutS rfl rfl underlying9 rfl (bndN _ _ _) (bndS rfl) hq119 hq120 hq121 hq122) ?_
        refine lk (dt := some 86) R18_17_N rfl rfl rfl (ov_bld (r := [.int .u8 4, .string s118, .int .i64 0]) rfl rfl bo33 (mp_cons rfl (mp_cons rfl rfl)) (fillP rfl rfl rfl rfl (fillP rfl rfl rfl rfl (fillN rfl)))) ?_
        refine lk (dt := some 87) R18_17_N rfl rfl rfl (opv_move rfl rfl h7) ?_
        obtain ⟨b124, i125, aw123, hp126, hw127, ho128, ha129, H⟩ := H
        refine lk (dt := none) R18_17_N rfl rfl rfl (ov_st rfl rfl rfl h2 rfl rfl sz33 hp126 hw127 ho128 ha129) ?_
        refine lk (dt := some 3) R18_17_N rfl rfl rfl (opv_assign rfl rfl rfl) ?_
        refine lk (dt := some 4) R18_17_N rfl rfl rfl (opv_assign rfl rfl rfl) ?_
        refine lk (dt := some 5) R18_17_N rfl rfl rfl (opv_assign rfl rfl rfl) ?_
        refine aops_nil ?_
        obtain ⟨b130, i131, c133, c134, c135, hp132, hg136, hg137, hg138, H⟩ := H
        exact ago_retE E18_67 (r := (c133, c134, c135, n_7, 0, 0)) (ares_4 rfl (oneN h2 hp132 underlying33 rfl sz33 (getN_cons hg136 (getN_cons hg137 (getN_cons hg138 getN_nil)))) (oneT rfl) (oneT rfl) (oneT rfl)) rfl H
set_option maxHeartbeats 4000000 in
set_option maxRecDepth 100000 in
theorem S18_4_ok (Q : (Int × ByteArray × Int × Int × Int × Int) → AW → Prop) (E : List PanicEntry → AW → Prop) (nx3 : ByteArray → Value → Int → AW → Prop) (L3 : ∀ (ρ : Env) (s_0 : ByteArray) (t_2 : Value) (n_7 : Int) (aw : AW) (h0 : ρ 0 = .string s_0) (h2 : ρ 2 = t_2) (h7 : ρ 7 = .int .i64 n_7), nx3 s_0 t_2 n_7 aw → AGo prog 110 [.code C18_39, .inLoop C18_39, .inBlock 3, .code C18_47, .inBlock 0, .code C18_75] ρ [] aw (RR prog f18 110 sh18 Q E)) (ρ : Env) (s_0 : ByteArray) (t_2 : Value) (n_7 : Int) (t_54 : Bool) (aw : AW) (h0 : ρ 0 = .string s_0) (h2 : ρ 2 = t_2) (h7 : ρ 7 = .int .i64 n_7) (h54 : ρ 54 = .bool t_54) (H : S18_4 Q E nx3 s_0 t_2 n_7 t_54 aw) :
    AGo prog 110 [.code C18_42, .code C18_45, .inLoop C18_39, .inBlock 3, .code C18_47, .inBlock 0, .code C18_75] ρ [] aw (RR prog f18 110 sh18 Q E) := by
  unfold S18_4 at H
  refine ago_condE  E18_42 rfl h54 (fun hb139 => ?_) (fun hb139 => ?_)
  · replace H := cnd_t H hb139
    refine ago_skipE E18_43 ?_
    refine ago_blockE E18_45 ?_
    refine ago_regE E18_46 (l := [0, 1, 2]) rfl ?_
    refine lk (dt := some 55) R18_11_N rfl rfl rfl (opv_move rfl rfl h7) ?_
    refine lk (dt := some 56) R18_11_N rfl rfl rfl (opv_add rfl rfl rfl rfl rfl) ?_
    refine lk (dt := some 7) R18_11_N rfl rfl rfl (opv_assign rfl rfl rfl) ?_
    refine aops_nil ?_
    refine ago_inBlock ?_
    refine ago_inLoop ?_
    exact L3 _ s_0 t_2 (IntKind.i64.wrap (n_7 + 1)) aw h0 h2 rfl H
  · replace H := cnd_f H hb139
    refine ago_exitE E18_44 rfl ?_
    refine ago_seqE E18_47 ?_
    refine ago_seqE E18_48 ?_
    refine ago_regE E18_49 (l := [0, 1, 2, 3, 4, 5, 6, 7, 8, 9]) rfl ?_
    refine lk (dt := some 57) R18_12_N rfl rfl rfl (opv_move rfl rfl h7) ?_
    refine lk (dt := some 58) R18_12_N rfl rfl rfl (opv_move rfl rfl h0) ?_
    refine lk (dt := some 59) R18_12_N rfl rfl rfl (opv_lenS rfl rfl rfl underlying9 rfl) ?_
    refine lk (dt := some 60) R18_12_N rfl rfl rfl (opv_lt rfl rfl rfl rfl rfl) ?_
    refine lk (dt := some 61) R18_12_N rfl rfl rfl (opv_move rfl rfl rfl) ?_
    rcases Bool.eq_false_or_eq_true (decide (n_7 < (s_0.size : Int))) with hb140 | hb140
    · replace H := cnd_t H hb140
      refine lk (dt := some 62) R18_12_N rfl rfl ⟨_, rfl, .inl ⟨_, rfl, gq hb140 rfl⟩⟩ (opv_move rfl rfl h0) ?_
      refine lk (dt := some 63) R18_12_N rfl rfl ⟨_, rfl, .inl ⟨_, rfl, gq hb140 rfl⟩⟩ (opv_move rfl rfl h7) ?_
      obtain ⟨c141, h0142, hj143, hv144, H⟩ := H
      refine lk (dt := some 64) R18_12_N rfl rfl ⟨_, rfl, .inl ⟨_, rfl, gq hb140 rfl⟩⟩ (ov_chr rfl rfl rfl underlying9 rfl rfl h0142 hj143 hv144) ?_
      refine lk_call (dt := some 65) R18_12_N rfl rfl ⟨_, rfl, .inl ⟨_, rfl, gq hb140 rfl⟩⟩ (opc_of rfl rfl is23 (ma_cons rfl rfl)) H (fun _ _ h => ⟨rfl, h⟩) fun r145 aw146 H => ?_
      refine lk (dt := some 66) R18_12_N rfl rfl rfl (ov_pickT rfl rfl rfl rfl rfl hb140 rfl) ?_
      refine aops_nil ?_
      exact S18_5_ok Q E  _ s_0 t_2 n_7 r145 aw146 h0 h2 h7 rfl H
    · replace H := cnd_f H hb140
      refine lk_skip (dt := some 62) R18_12_N rfl rfl ⟨_, rfl, .inl ⟨_, rfl, gq hb140 rfl⟩⟩ ?_
      refine lk_skip (dt := some 63) R18_12_N rfl rfl ⟨_, rfl, .inl ⟨_, rfl, gq hb140 rfl⟩⟩ ?_
      refine lk_skip (dt := some 64) R18_12_N rfl rfl ⟨_, rfl, .inl ⟨_, rfl, gq hb140 rfl⟩⟩ ?_
      refine lk_skip (dt := some 65) R18_12_N rfl rfl ⟨_, rfl, .inl ⟨_, rfl, gq hb140 rfl⟩⟩ ?_
      refine lk (dt := some 66) R18_12_N rfl rfl rfl (ov_pickF rfl rfl rfl rfl rfl hb140 rfl) ?_
      refine aops_nil ?_
      exact S18_5_ok Q E  _ s_0 t_2 n_7 false aw h0 h2 h7 rfl H
set_option maxHeartbeats 4000000 in
set_option maxRecDepth 100000 in
theorem S18_3s_ok (Q : (Int × ByteArray × Int × Int × Int × Int) → AW → Prop) (E : List PanicEntry → AW → Prop)  (nx3 : ByteArray → Value → Int → AW → Prop) (L3 : ∀ (ρ : Env) (s_0 : ByteArray) (t_2 : Value) (n_7 : Int) (aw : AW) (h0 : ρ 0 = .string s_0) (h2 : ρ 2 = t_2) (h7 : ρ 7 = .int .i64 n_7), nx3 s_0 t_2 n_7 aw → AGo prog 110 [.code C18_39, .inLoop C18_39, .inBlock 3, .code C18_47, .inBlock 0, .code C18_75] ρ [] aw (RR prog f18 110 sh18 Q E)) (ρ : Env) (s_0 : ByteArray) (t_2 : Value) (n_7 : Int) (aw : AW) (h0 : ρ 0 = .string s_0) (h2 : ρ 2 = t_2) (h7 : ρ 7 = .int .i64 n_7) (H : S18_3s Q E  nx3 s_0 t_2 n_7 aw) :
    AGo prog 110 [.code C18_39, .inLoop C18_39, .inBlock 3, .code C18_47, .inBlock 0, .code C18_75] ρ [] aw (RR prog f18 110 sh18 Q E) := by
  unfold S18_3s at H
  refine ago_seqE E18_39 ?_
  refine ago_seqE E18_40 ?_
  refine ago_regE E18_41 (l := [0, 1, 2, 3, 4, 5, 6, 7, 8, 9]) rfl ?_
  refine lk (dt := some 45) R18_10_N rfl rfl rfl (opv_move rfl rfl h7) ?_
  refine lk (dt := some 46) R18_10_N rfl rfl rfl (opv_move rfl rfl h0) ?_
  refine lk (dt := some 47) R18_10_N rfl rfl rfl (opv_lenS rfl rfl rfl underlying9 rfl) ?_
  refine lk (dt := some 48) R18_10_N rfl rfl rfl (opv_lt rfl rfl rfl rfl rfl) ?_
  refine lk (dt := some 49) R18_10_N rfl rfl rfl (opv_move rfl rfl rfl) ?_
  rcases Bool.eq_false_or_eq_true (decide (n_7 < (s_0.size : Int))) with hb147 | hb147
  · replace H := cnd_t H hb147
    refine lk (dt := some 50) R18_10_N rfl rfl ⟨_, rfl, .inl ⟨_, rfl, gq hb147 rfl⟩⟩ (opv_move rfl rfl h0) ?_
    refine lk (dt := some 51) R18_10_N rfl rfl ⟨_, rfl, .inl ⟨_, rfl, gq hb147 rfl⟩⟩ (opv_move rfl rfl h7) ?_
    obtain ⟨c148, h0149, hj150, hv151, H⟩ := H
    refine lk (dt := some 52) R18_10_N rfl rfl ⟨_, rfl, .inl ⟨_, rfl, gq hb147 rfl⟩⟩ (ov_chr rfl rfl rfl underlying9 rfl rfl h0149 hj150 hv151) ?_
    refine lk_call (dt := some 53) R18_10_N rfl rfl ⟨_, rfl, .inl ⟨_, rfl, gq hb147 rfl⟩⟩ (opc_of rfl rfl is25 (ma_cons rfl rfl)) H (fun _ _ h => ⟨rfl, h⟩) fun r152 aw153 H => ?_
    refine lk (dt := some 54) R18_10_N rfl rfl rfl (ov_pickT rfl rfl rfl rfl rfl hb147 rfl) ?_
    refine aops_nil ?_
    exact S18_4_ok Q E nx3 L3 _ s_0 t_2 n_7 r152 aw153 h0 h2 h7 rfl H
  · replace H := cnd_f H hb147
    refine lk_skip (dt := some 50) R18_10_N rfl rfl ⟨_, rfl, .inl ⟨_, rfl, gq hb147 rfl⟩⟩ ?_
    refine lk_skip (dt := some 51) R18_10_N rfl rfl ⟨_, rfl, .inl ⟨_, rfl, gq hb147 rfl⟩⟩ ?_
    refine lk_skip (dt := some 52) R18_10_N rfl rfl ⟨_, rfl, .inl ⟨_, rfl, gq hb147 rfl⟩⟩ ?_
    refine lk_skip (dt := some 53) R18_10_N rfl rfl ⟨_, rfl, .inl ⟨_, rfl, gq hb147 rfl⟩⟩ ?_
    refine lk (dt := some 54) R18_10_N rfl rfl rfl (ov_pickF rfl rfl rfl rfl rfl hb147 rfl) ?_
    refine aops_nil ?_
    exact S18_4_ok Q E nx3 L3 _ s_0 t_2 n_7 false aw h0 h2 h7 rfl H
theorem S18_3_ok (Q : (Int × ByteArray × Int × Int × Int × Int) → AW → Prop) (E : List PanicEntry → AW → Prop)  : ∀ (n : Nat) (ρ : Env) (s_0 : ByteArray) (t_2 : Value) (n_7 : Int) (aw : AW) (h0 : ρ 0 = .string s_0) (h2 : ρ 2 = t_2) (h7 : ρ 7 = .int .i64 n_7), S18_3 Q E  n s_0 t_2 n_7 aw →
    AGo prog 110 [.code C18_39, .inLoop C18_39, .inBlock 3, .code C18_47, .inBlock 0, .code C18_75] ρ [] aw (RR prog f18 110 sh18 Q E)
  | 0, _, _, _, _, _, _, _, _ => fun H => H.elim
  | n + 1, ρ, s_0, t_2, n_7, aw, h0, h2, h7 => fun H => S18_3s_ok Q E  _ (S18_3_ok Q E  n) ρ s_0 t_2 n_7 aw h0 h2 h7 H
set_option maxHeartbeats 4000000 in
set_option maxRecDepth 100000 in
theorem S18_2s_ok (Q : (Int × ByteArray × Int × Int × Int × Int) → AW → Prop) (E : List PanicEntry → AW → Prop)  (nx2 : ByteArray → Value → List Value → Int → AW → Prop) (L2 : ∀ (ρ : Env) (s_0 : ByteArray) (t_2 : Value) (t_97 : List Value) (t_98 : Int) (aw : AW) (h0 : ρ 0 = .string s_0) (h2 : ρ 2 = t_2) (h97 : ρ 97 = .agg t_97.toArray) (h98 : ρ 98 = .int .i64 t_98), nx2 s_0 t_2 t_97 t_98 aw → AGo prog 110 [.code C18_80, .inLoop C18_80, .inBlock 5, .code C18_98] ρ [] aw (RR prog f18 110 sh18 Q E)) (ρ : Env) (s_0 : ByteArray) (t_2 : Value) (t_97 : List Value) (t_98 : Int) (aw : AW) (h0 : ρ 0 = .string s_0) (h2 : ρ 2 = t_2) (h97 : ρ 97 = .agg t_97.toArray) (h98 : ρ 98 = .int .i64 t_98) (H : S18_2s Q E  nx2 s_0 t_2 t_97 t_98 aw) :
    AGo prog 110 [.code C18_80, .inLoop C18_80, .inBlock 5, .code C18_98] ρ [] aw (RR prog f18 110 sh18 Q E) := by
  unfold S18_2s at H
  refine ago_seqE E18_80 ?_
  refine ago_regE E18_81 (l := [0]) rfl ?_
  refine lk (dt := some 99) R18_21_N rfl rfl rfl (opv_lt rfl rfl rfl h98 rfl) ?_
  refine aops_nil ?_
  refine ago_seqE E18_82 ?_
  refine ago_condE  E18_83 rfl rfl (fun hb154 => ?_) (fun hb154 => ?_)
  · replace H := cnd_t H hb154
    refine ago_skipE E18_84 ?_
    refine ago_seqE E18_86 ?_
    refine ago_blockE E18_87 ?_
    refine ago_seqE E18_88 ?_
    refine ago_regE E18_89 (l := [0, 1]) rfl ?_
    obtain ⟨hl159, h0156, c155, hv158, H⟩ := H
    refine lk (dt := some 100) R18_22_N rfl rfl rfl (ov_el rfl rfl rfl underlying50 underlying9 rfl sz9 h97 h98 hl159 h0156 hv158) ?_
    refine lk (dt := some 11) R18_22_N rfl rfl rfl (opv_assign rfl rfl rfl) ?_
    refine aops_nil ?_
    refine ago_seqE E18_90 ?_
    refine ago_regE E18_91 (l := [0, 1, 2]) rfl ?_
    refine lk (dt := some 101) R18_23_N rfl rfl rfl (opv_move rfl rfl h0) ?_
    refine lk (dt := some 102) R18_23_N rfl rfl rfl (opv_move rfl rfl rfl) ?_
    refine lk_call (dt := some 103) R18_23_N rfl rfl rfl (opc_of rfl rfl is16 (ma_cons rfl (ma_cons rfl rfl))) H (fun _ _ h => ⟨rfl, h⟩) fun r160 aw161 H => ?_
    refine aops_nil ?_
    refine ago_condE  E18_92 rfl rfl (fun hb162 => ?_) (fun hb162 => ?_)
    · replace H := cnd_t H hb162
      refine ago_seqE E18_93 ?_
      refine ago_regE E18_94 (l := [0, 1, 2, 3, 4, 5, 6, 7]) rfl ?_
      refine lk (dt := some 104) R18_24_N rfl rfl rfl (opv_move rfl rfl rfl) ?_
      refine lk (dt := some 105) R18_24_N rfl rfl rfl (ov_bld (r := [.int .u8 7, .string c155, .int .i64 0]) rfl rfl bo33 (mp_cons rfl (mp_cons rfl rfl)) (fillP rfl rfl rfl rfl (fillP rfl rfl rfl rfl (fillN rfl)))) ?_
      refine lk (dt := some 106) R18_24_N rfl rfl rfl (opv_move rfl rfl rfl) ?_
      refine lk (dt := some 107) R18_24_N rfl rfl rfl (opv_lenS rfl rfl rfl underlying9 rfl) ?_
      obtain ⟨b164, i165, aw163, hp166, hw167, ho168, ha169, H⟩ := H
      refine lk (dt := none) R18_24_N rfl rfl rfl (ov_st rfl rfl rfl h2 rfl rfl sz33 hp166 hw167 ho168 ha169) ?_
      refine lk (dt := some 3) R18_24_N rfl rfl rfl (opv_assign rfl rfl rfl) ?_
      refine lk (dt := some 4) R18_24_N rfl rfl rfl (opv_assign rfl rfl rfl) ?_
      refine lk (dt := some 5) R18_24_N rfl rfl rfl (opv_assign rfl rfl rfl) ?_
      refine aops_nil ?_
      obtain ⟨b170, i171, c173, c174, c175, hp172, hg176, hg177, hg178, H⟩ := H
      exact ago_retE E18_95 (r := (c173, c174, c175, (c155.size : Int), 0, 0)) (ares_4 rfl (oneN h2 hp172 underlying33 rfl sz33 (getN_cons hg176 (getN_cons hg177 (getN_cons hg178 getN_nil)))) (oneT rfl) (oneT rfl) (oneT rfl)) rfl H
    · replace H := cnd_f H hb162
      refine ago_skipE E18_96 ?_
      refine ago_inBlock ?_
      refine ago_regE E18_97 (l := [0, 1]) rfl ?_
      refine lk (dt := some 108) R18_25_N rfl rfl rfl (opv_add rfl rfl rfl h98 rfl) ?_
      refine lk (dt := some 98) R18_25_N rfl rfl rfl (opv_move rfl rfl rfl) ?_
      refine aops_nil ?_
      refine ago_inLoop ?_
      exact L2 _ s_0 t_2 t_97 (IntKind.i64.wrap (t_98 + 1)) aw161 h0 h2 h97 rfl H
  · replace H := cnd_f H hb154
    refine ago_exitE E18_85 rfl ?_
    refine ago_seqE E18_98 ?_
    refine ago_regE E18_99 (l := [0, 1, 2, 3, 4]) rfl ?_
    refine lk (dt := some 109) R18_26_N rfl rfl rfl (ov_bld (r := [.int .u8 0, .string (⟨#[]⟩ : ByteArray), .int .i64 0]) rfl rfl bo33 rfl (fillN rfl)) ?_
    obtain ⟨b180, i181, aw179, hp182, hw183, ho184, ha185, H⟩ := H
    refine lk (dt := none) R18_26_N rfl rfl rfl (ov_st rfl rfl rfl h2 rfl rfl sz33 hp182 hw183 ho184 ha185) ?_
    refine lk (dt := some 3) R18_26_N rfl rfl rfl (opv_assign rfl rfl rfl) ?_
    refine lk (dt := some 4) R18_26_N rfl rfl rfl (opv_assign rfl rfl rfl) ?_
    refine lk (dt := some 5) R18_26_N rfl rfl rfl (opv_assign rfl rfl rfl) ?_
    refine aops_nil ?_
    obtain ⟨b186, i187, c189, c190, c191, hp188, hg192, hg193, hg194, H⟩ := H
    exact ago_retE E18_100 (r := (c189, c190, c191, 0, 0, 4)) (ares_4 rfl (oneN h2 hp188 underlying33 rfl sz33 (getN_cons hg192 (getN_cons hg193 (getN_cons hg194 getN_nil)))) (oneT rfl) (oneT rfl) (oneT rfl)) rfl H
theorem S18_2_ok (Q : (Int × ByteArray × Int × Int × Int × Int) → AW → Prop) (E : List PanicEntry → AW → Prop)  : ∀ (n : Nat) (ρ : Env) (s_0 : ByteArray) (t_2 : Value) (t_97 : List Value) (t_98 : Int) (aw : AW) (h0 : ρ 0 = .string s_0) (h2 : ρ 2 = t_2) (h97 : ρ 97 = .agg t_97.toArray) (h98 : ρ 98 = .int .i64 t_98), S18_2 Q E  n s_0 t_2 t_97 t_98 aw →
    AGo prog 110 [.code C18_80, .inLoop C18_80, .inBlock 5, .code C18_98] ρ [] aw (RR prog f18 110 sh18 Q E)
  | 0, _, _, _, _, _, _, _, _, _, _ => fun H => H.elim
  | n + 1, ρ, s_0, t_2, t_97, t_98, aw, h0, h2, h97, h98 => fun H => S18_2s_ok Q E  _ (S18_2_ok Q E  n) ρ s_0 t_2 t_97 t_98 aw h0 h2 h97 h98 H
set_option maxHeartbeats 4000000 in
set_option maxRecDepth 100000 in
theorem S18_1_ok (Q : (Int × ByteArray × Int × Int × Int × Int) → AW → Prop) (E : List PanicEntry → AW → Prop)  (ρ : Env) (s_0 : ByteArray) (t_2 : Value) (c_6 : Int) (n_7 : Int) (t_14 : Bool) (aw : AW) (h0 : ρ 0 = .string s_0) (h2 : ρ 2 = t_2) (h6 : ρ 6 = .int .u8 c_6) (h7 : ρ 7 = .int .i64 n_7) (h14 : ρ 14 = .bool t_14) (H : S18_1 Q E  s_0 t_2 c_6 n_7 t_14 aw) :
    AGo prog 110 [.code C18_18, .inBlock 0, .code C18_75] ρ [] aw (RR prog f18 110 sh18 Q E) := by
  unfold S18_1 at H
  refine ago_condE  E18_18 rfl h14 (fun hb195 => ?_) (fun hb195 => ?_)
  · replace H := cnd_t H hb195
    refine ago_seqE E18_19 ?_
    refine ago_blockE E18_20 ?_
    refine ago_loopE E18_21 ?_
    obtain ⟨n, H⟩ := H
    exact S18_6_ok Q E  n _ s_0 t_2 n_7 aw h0 h2 h7 H
  · replace H := cnd_f H hb195
    refine ago_seqE E18_33 ?_
    refine ago_regE E18_34 (l := [0, 1, 2]) rfl ?_
    refine lk (dt := some 43) R18_9_N rfl rfl rfl (opv_move rfl rfl h6) ?_
    refine lk_call (dt := some 44) R18_9_N rfl rfl rfl (opc_of rfl rfl is25 (ma_cons rfl rfl)) H (fun _ _ h => ⟨rfl, h⟩) fun r196 aw197 H => ?_
    refine lk (dt := some 42) R18_9_N rfl rfl rfl (opv_assign rfl rfl rfl) ?_
    refine aops_nil ?_
    refine ago_condE  E18_35 rfl rfl (fun hb198 => ?_) (fun hb198 => ?_)
    · replace H := cnd_t H hb198
      refine ago_seqE E18_36 ?_
      refine ago_blockE E18_37 ?_
      refine ago_loopE E18_38 ?_
      obtain ⟨n, H⟩ := H
      exact S18_3_ok Q E  n _ s_0 t_2 n_7 aw197 h0 h2 h7 H
    · replace H := cnd_f H hb198
      refine ago_seqE E18_68 ?_
      refine ago_regE E18_69 (l := [0, 1, 2]) rfl ?_
      refine lk (dt := some 89) R18_18_N rfl rfl rfl (opv_move rfl rfl h6) ?_
      refine lk (dt := some 90) R18_18_N rfl rfl rfl (opv_eqI rfl rfl rfl rfl rfl) ?_
      refine lk (dt := some 88) R18_18_N rfl rfl rfl (opv_assign rfl rfl rfl) ?_
      refine aops_nil ?_
      refine ago_condE  E18_70 rfl rfl (fun hb199 => ?_) (fun hb199 => ?_)
      · replace H := cnd_t H hb199
        refine ago_seqE E18_71 ?_
        refine ago_regE E18_72 (l := [0, 1, 2, 3, 4, 5, 6, 7, 8, 9]) rfl ?_
        refine lk (dt := some 91) R18_19_N rfl rfl rfl (opv_move rfl rfl h0) ?_
        refine lk_call (dt := some 92) R18_19_N rfl rfl rfl (opc_of rfl rfl is27 (ma_cons rfl rfl)) H (fun _ _ h => ⟨rfl, h⟩) fun r200 aw201 H => ?_
        refine lk (dt := some 93) R18_19_N rfl rfl rfl (opv_extract rfl rfl rfl rfl) ?_
        refine lk (dt := some 94) R18_19_N rfl rfl rfl (opv_extract rfl rfl rfl rfl) ?_
        refine lk (dt := some 95) R18_19_N rfl rfl rfl (opv_extract rfl rfl rfl rfl) ?_
        refine lk (dt := some 96) R18_19_N rfl rfl rfl (opv_extract rfl rfl rfl rfl) ?_
        obtain ⟨b203, i204, aw202, hp205, hw206, ho207, ha208, H⟩ := H
        refine lk (dt := none) R18_19_N rfl rfl rfl (ov_st rfl rfl rfl h2 rfl rfl sz33 hp205 hw206 ho207 ha208) ?_
        refine lk (dt := some 3) R18_19_N rfl rfl rfl (opv_assign rfl rfl rfl) ?_
        refine lk (dt := some 4) R18_19_N rfl rfl rfl (opv_assign rfl rfl rfl) ?_
        refine lk (dt := some 5) R18_19_N rfl rfl rfl (opv_assign rfl rfl rfl) ?_
        refine aops_nil ?_
        obtain ⟨b209, i210, c212, c213, c214, hp211, hg215, hg216, hg217, H⟩ := H
        exact ago_retE E18_73 (r := (c212, c213, c214, r200.2.2.2.1, r200.2.2.2.2.1, r200.2.2.2.2.2)) (ares_4 rfl (oneN h2 hp211 underlying33 rfl sz33 (getN_cons hg215 (getN_cons hg216 (getN_cons hg217 getN_nil)))) (oneT rfl) (oneT rfl) (oneT rfl)) rfl H
      · replace H := cnd_f H hb199
        refine ago_skipE E18_74 ?_
        refine ago_inBlock ?_
        refine ago_seqE E18_75 ?_
        refine ago_seqE E18_76 ?_
        refine ago_regE E18_77 (l := [0, 1]) rfl ?_
        obtain ⟨b218, i219, x221, hp220, hg222, H⟩ := H
        refine lk (dt := some 97) R18_20_N rfl rfl rfl (ov_ldN rfl underlying50 rfl sz50 rfl rfl hp220 hg222) ?_
        refine lk (dt := some 98) R18_20_N rfl rfl rfl (opv_move rfl rfl rfl) ?_
        refine aops_nil ?_
        refine ago_blockE E18_78 ?_
        refine ago_loopE E18_79 ?_
        obtain ⟨n, H⟩ := H
        exact S18_2_ok Q E  n _ s_0 t_2 x221 0 aw197 h0 h2 rfl rfl H
set_option maxHeartbeats 4000000 in
set_option maxRecDepth 100000 in
theorem S18_0_ok (Q : (Int × ByteArray × Int × Int × Int × Int) → AW → Prop) (E : List PanicEntry → AW → Prop)  (ρ : Env) (s_0 : ByteArray) (aw : AW) (h0 : ρ 0 = .string s_0) (H : S18_0 Q E  s_0 aw) :
    AGo prog 110 [.code C18_0] ρ [] aw (RR prog f18 110 sh18 Q E) := by
  unfold S18_0 at H
  refine ago_seqE E18_0 ?_
  refine ago_regE E18_1 (l := [0, 1, 2, 3]) rfl ?_
  obtain ⟨p223, aw224, hp225, ha226, H⟩ := H
  refine lk (dt := some 2) R18_0_N rfl rfl rfl (ov_alloc rfl z33 rfl rfl hp225 ha226) ?_
  refine lk (dt := some 3) R18_0_N rfl rfl rfl (opv_assign rfl rfl rfl) ?_
  refine lk (dt := some 4) R18_0_N rfl rfl rfl (opv_assign rfl rfl rfl) ?_
  refine lk (dt := some 5) R18_0_N rfl rfl rfl (opv_assign rfl rfl rfl) ?_
  refine aops_nil ?_
  refine ago_seqE E18_2 ?_
  refine ago_regE E18_3 (l := [0, 1, 2]) rfl ?_
  refine lk (dt := some 12) R18_1_N rfl rfl rfl (opv_move rfl rfl h0) ?_
  obtain ⟨c227, h0228, hj229, hv230, H⟩ := H
  refine lk (dt := some 13) R18_1_N rfl rfl rfl (ov_chr rfl rfl rfl underlying9 rfl rfl h0228 hj229 hv230) ?_
  refine lk (dt := some 6) R18_1_N rfl rfl rfl (opv_assign rfl rfl rfl) ?_
  refine aops_nil ?_
  refine ago_seqE E18_4 ?_
  refine ago_regE E18_5 (l := [0]) rfl ?_
  refine lk (dt := some 7) R18_2_N rfl rfl rfl (opv_assign rfl rfl rfl) ?_
  refine aops_nil ?_
  refine ago_seqE E18_6 ?_
  refine ago_blockE E18_7 ?_
  refine ago_seqE E18_8 ?_
  refine ago_seqE E18_9 ?_
  refine ago_regE E18_10 (l := [0, 1, 2]) rfl ?_
  refine lk (dt := some 15) R18_3_N rfl rfl rfl (opv_move rfl rfl rfl) ?_
  refine lk_call (dt := some 16) R18_3_N rfl rfl rfl (opc_of rfl rfl is21 (ma_cons rfl rfl)) H (fun _ _ h => ⟨rfl, h⟩) fun r231 aw232 H => ?_
  refine lk (dt := some 14) R18_3_N rfl rfl rfl (opv_assign rfl rfl rfl) ?_
  refine aops_nil ?_
  refine ago_condE  E18_11 rfl rfl (fun hb233 => ?_) (fun hb233 => ?_)
  · replace H := cnd_t H hb233
    refine ago_skipE E18_12 ?_
    exact S18_1_ok Q E  _ s_0 p223 c227 1 r231 aw232 h0 rfl rfl rfl rfl H
  · replace H := cnd_f H hb233
    refine ago_seqE E18_13 ?_
    refine ago_regE E18_14 (l := [0, 1, 2]) rfl ?_
    refine lk (dt := some 17) R18_4_N rfl rfl rfl (opv_move rfl rfl rfl) ?_
    refine lk_call (dt := some 18) R18_4_N rfl rfl rfl (opc_of rfl rfl is22 (ma_cons rfl rfl)) H (fun _ _ h => ⟨rfl, h⟩) fun r234 aw235 H => ?_
    refine lk (dt := some 14) R18_4_N rfl rfl rfl (opv_assign rfl rfl rfl) ?_
    refine aops_nil ?_
    refine ago_condE  E18_15 rfl rfl (fun hb236 => ?_) (fun hb236 => ?_)
    · replace H := cnd_t H hb236
      refine ago_skipE E18_16 ?_
      exact S18_1_ok Q E  _ s_0 p223 c227 1 r234 aw235 h0 rfl rfl rfl rfl H
    · replace H := cnd_f H hb236
      refine ago_cut (fun ρ => ρ 0 = .string s_0 ∧ ρ 2 = p223 ∧ ρ 6 = .int .u8 c227 ∧ ρ 7 = .int .i64 1 ∧ True) ⟨h0, rfl, rfl, rfl, trivial⟩ (fun ρ ⟨h0, h2, h6, h7, _⟩ => ?_)
      refine ago_regE E18_17 (l := [0, 1, 2]) rfl ?_
      refine lk (dt := some 19) R18_5_N rfl rfl rfl (opv_move rfl rfl h6) ?_
      refine lk (dt := some 20) R18_5_N rfl rfl rfl (opv_eqI rfl rfl rfl rfl rfl) ?_
      refine lk (dt := some 14) R18_5_N rfl rfl rfl (opv_assign rfl rfl rfl) ?_
      refine aops_nil ?_
      exact S18_1_ok Q E  _ s_0 p223 c227 1 (decide (c227 = 39)) aw235 h0 h2 h6 h7 rfl H
theorem F18_ok {Q : (Int × ByteArray × Int × Int × Int × Int) → AW → Prop} {E : List PanicEntry → AW → Prop} (s_0 : ByteArray) (aw : AW) (H : S18_0 Q E s_0 aw) : CallP prog 18 [.string s_0] aw sh18 Q E :=
  callP_of func18 C18_is rfl (Nat.le_of_ble_eq_true rfl) (S18_0_ok Q E _ s_0 aw rfl H)
/-! ### strconv.ParseInt: function 26 -/
noncomputable def C26_0 : Code := bodyOf f26
theorem C26_is : f26.body = some C26_0 := by kernel_rfl
noncomputable def C26_1 : Code := cl C26_0
noncomputable def R26_0 : Array Oper := regOps C26_1
noncomputable def C26_2 : Code := cr C26_0
noncomputable def C26_3 : Code := cl C26_2
noncomputable def R26_1 : Array Oper := regOps C26_3
noncomputable def C26_4 : Code := cr C26_2
noncomputable def C26_5 : Code := cl C26_4
noncomputable def C26_6 : Code := cl C26_5
noncomputable def R26_2 : Array Oper := regOps C26_6
noncomputable def C26_7 : Code := cr C26_5
noncomputable def C26_8 : Code := cl C26_7
noncomputable def C26_9 : Code := cl C26_8
noncomputable def R26_3 : Array Oper := regOps C26_9
noncomputable def C26_10 : Code := cr C26_8
noncomputable def C26_11 : Code := cr C26_7
noncomputable def C26_12 : Code := cr C26_4
noncomputable def C26_13 : Code := cl C26_12
noncomputable def R26_4 : Array Oper := regOps C26_13
noncomputable def C26_14 : Code := cr C26_12
theorem R26_0_N : dstsOk 25 R26_0 = true := by decide +kernel
theorem E26_1 : C26_1 = .region 0 R26_0 false := rfl
theorem R26_1_N : dstsOk 25 R26_1 = true := by decide +kernel
theorem E26_3 : C26_3 = .region 1 R26_1 false := rfl
theorem R26_2_N : dstsOk 25 R26_2 = true := by decide +kernel
theorem E26_6 : C26_6 = .region 2 R26_2 false := rfl
theorem R26_3_N : dstsOk 25 R26_3 = true := by decide +kernel
theorem E26_9 : C26_9 = .region 3 R26_3 false := rfl
theorem E26_10 : C26_10 = .ret := rfl
theorem E26_8 : C26_8 = .seq C26_9 C26_10 := rfl
theorem E26_11 : C26_11 = .skip := rfl
theorem E26_7 : C26_7 = .cond (.tmp 17) C26_8 C26_11 := rfl
theorem E26_5 : C26_5 = .seq C26_6 C26_7 := rfl
theorem R26_4_N : dstsOk 25 R26_4 = true := by decide +kernel
theorem E26_13 : C26_13 = .region 4 R26_4 false := rfl
theorem E26_14 : C26_14 = .ret := rfl
theorem E26_12 : C26_12 = .seq C26_13 C26_14 := rfl
theorem E26_4 : C26_4 = .seq C26_5 C26_12 := rfl
theorem E26_2 : C26_2 = .seq C26_3 C26_4 := rfl
theorem E26_0 : C26_0 = .seq C26_1 C26_2 := rfl
def S26_0 (Q : (Int × Value) → AW → Prop) (E : List PanicEntry → AW → Prop)  (s_0 : ByteArray) (base_1 : Int) (bitSize_2 : Int) (aw : AW) : Prop :=
  CallP prog 29 [.string s_0, .int .i64 base_1, .int .i64 bitSize_2] aw sh29 (fun r1 aw2 =>
  nilB (.interface #[("Error", 56)]) r1.2 (.nilIface ) fun q3 =>
  cnd (!q3) (CallP prog 30 [.string (⟨#[80, 97, 114, 115, 101, 73, 110, 116]⟩ : ByteArray), .string s_0, .int .i64 base_1, .int .i64 bitSize_2, r1.2] aw2 sh30 (fun r7 aw8 =>
  Q (r1.1, r7) aw8) E) (Q (r1.1, (.nilIface )) aw2)) E
set_option maxHeartbeats 4000000 in
set_option maxRecDepth 100000 in
theorem S26_0_ok (Q : (Int × Value) → AW → Prop) (E : List PanicEntry → AW → Prop)  (ρ : Env) (s_0 : ByteArray) (base_1 : Int) (bitSize_2 : Int) (aw : AW) (h0 : ρ 0 = .string s_0) (h1 : ρ 1 = .int .i64 base_1) (h2 : ρ 2 = .int .i64 bitSize_2) (H : S26_0 Q E  s_0 base_1 bitSize_2 aw) :
    AGo prog 25 [.code C26_0] ρ [] aw (RR prog f26 25 sh26 Q E) := by
  unfold S26_0 at H
  refine ago_seqE E26_0 ?_
  refine ago_regE E26_1 (l := [0, 1]) rfl ?_
  refine lk (dt := some 6) R26_0_N rfl rfl rfl (opv_assign rfl rfl rfl) ?_
  refine lk (dt := some 7) R26_0_N rfl rfl rfl (opv_assign rfl rfl rfl) ?_
  refine aops_nil ?_
  refine ago_seqE E26_2 ?_
  refine ago_regE E26_3 (l := [0, 1, 2, 3, 4, 5, 6, 7, 8]) rfl ?_
  refine lk (dt := some 10) R26_1_N rfl rfl rfl (opv_move rfl rfl h0) ?_
  refine lk (dt := some 11) R26_1_N rfl rfl rfl (opv_move rfl rfl h1) ?_
  refine lk (dt := some 12) R26_1_N rfl rfl rfl (opv_move rfl rfl h2) ?_
  refine lk_call (dt := some 13) R26_1_N rfl rfl rfl (opc_of rfl rfl is29 (ma_cons rfl (ma_cons rfl (ma_cons rfl rfl)))) H (fun _ _ h => ⟨rfl, h⟩) fun r1 aw2 H => ?_
  refine lk (dt := some 9) R26_1_N rfl rfl rfl (opv_move rfl rfl rfl) ?_
  refine lk (dt := some 14) R26_1_N rfl rfl rfl (opv_extract rfl rfl rfl rfl) ?_
  refine lk (dt := some 15) R26_1_N rfl rfl rfl (opv_extract rfl rfl rfl rfl) ?_
  refine lk (dt := some 8) R26_1_N rfl rfl rfl (opv_assign rfl rfl rfl) ?_
  refine lk (dt := some 7) R26_1_N rfl rfl rfl (opv_assign rfl rfl rfl) ?_
  refine aops_nil ?_
  refine ago_seqE E26_4 ?_
  refine ago_seqE E26_5 ?_
  refine ago_regE E26_6 (l := [0, 1]) rfl ?_
  refine lk (dt := some 16) R26_2_N rfl rfl rfl (opv_move rfl rfl rfl) ?_
  obtain ⟨q3, hf4, hq5, H⟩ := H
  refine lk (dt := some 17) R26_2_N rfl rfl rfl (ov_neNil rfl rfl underlying47 rfl hf4 hq5) ?_
  refine aops_nil ?_
  refine ago_condE  E26_7 rfl rfl (fun hb6 => ?_) (fun hb6 => ?_)
  · replace H := cnd_t H hb6
    refine ago_seqE E26_8 ?_
    refine ago_cut (fun ρ => ρ 0 = .string s_0 ∧ ρ 1 = .int .i64 base_1 ∧ ρ 2 = .int .i64 bitSize_2 ∧ ρ 7 = r1.2 ∧ ρ 8 = .int .i64 r1.1 ∧ True) ⟨h0, h1, h2, rfl, rfl, trivial⟩ (fun ρ ⟨h0, h1, h2, h7, h8, _⟩ => ?_)
    refine ago_regE E26_9 (l := [0, 1, 2, 3, 4, 5, 6, 7]) rfl ?_
    refine lk (dt := some 18) R26_3_N rfl rfl rfl (opv_move rfl rfl h8) ?_
    refine lk (dt := some 19) R26_3_N rfl rfl rfl (opv_move rfl rfl h0) ?_
    refine lk (dt := some 20) R26_3_N rfl rfl rfl (opv_move rfl rfl h1) ?_
    refine lk (dt := some 21) R26_3_N rfl rfl rfl (opv_move rfl rfl h2) ?_
    refine lk (dt := some 22) R26_3_N rfl rfl rfl (opv_move rfl rfl h7) ?_
    refine lk_call (dt := some 23) R26_3_N rfl rfl rfl (opc_of rfl rfl is30 (ma_cons rfl (ma_cons rfl (ma_cons rfl (ma_cons rfl (ma_cons rfl rfl)))))) H (fun _ _ h => ⟨rfl, h⟩) fun r7 aw8 H => ?_
    refine lk (dt := some 6) R26_3_N rfl rfl rfl (opv_assign rfl rfl rfl) ?_
    refine lk (dt := some 7) R26_3_N rfl rfl rfl (opv_assign rfl rfl rfl) ?_
    refine aops_nil ?_
    exact ago_retE E26_10 (r := (r1.1, r7)) (ares_2 rfl (oneT rfl) (oneT rfl)) rfl H
  · replace H := cnd_f H hb6
    refine ago_skipE E26_11 ?_
    refine ago_seqE E26_12 ?_
    refine ago_cut (fun ρ => ρ 8 = .int .i64 r1.1 ∧ True) ⟨rfl, trivial⟩ (fun ρ ⟨h8, _⟩ => ?_)
    refine ago_regE E26_13 (l := [0, 1, 2]) rfl ?_
    refine lk (dt := some 24) R26_4_N rfl rfl rfl (opv_move rfl rfl h8) ?_
    refine lk (dt := some 6) R26_4_N rfl rfl rfl (opv_assign rfl rfl rfl) ?_
    refine lk (dt := some 7) R26_4_N rfl rfl rfl (opv_assign rfl rfl rfl) ?_
    refine aops_nil ?_
    exact ago_retE E26_14 (r := (r1.1, (.nilIface ))) (ares_2 rfl (oneT rfl) (oneT rfl)) rfl H
theorem F26_ok {Q : (Int × Value) → AW → Prop} {E : List PanicEntry → AW → Prop} (s_0 : ByteArray) (base_1 : Int) (bitSize_2 : Int) (aw : AW) (H : S26_0 Q E s_0 base_1 bitSize_2 aw) : CallP prog 26 [.string s_0, .int .i64 base_1, .int .i64 bitSize_2] aw sh26 Q E :=
  callP_of func26 C26_is rfl (Nat.le_of_ble_eq_true rfl) (S26_0_ok Q E _ s_0 base_1 bitSize_2 aw rfl rfl rfl H)
/-! ### internal/strconv.ParseInt: function 29 -/
noncomputable def C29_0 : Code := bodyOf f29
theorem C29_is : f29.body = some C29_0 := by kernel_rfl
noncomputable def C29_1 : Code := cl C29_0
noncomputable def R29_0 : Array Oper := regOps C29_1
noncomputable def C29_2 : Code := cr C29_0
noncomputable def C29_3 : Code := cl C29_2
noncomputable def C29_4 : Code := cl C29_3
noncomputable def R29_1 : Array Oper := regOps C29_4
noncomputable def C29_5 : Code := cr C29_3
noncomputable def C29_6 : Code := cl C29_5
noncomputable def C29_7 : Code := cl C29_6
noncomputable def R29_2 : Array Oper := regOps C29_7
noncomputable def C29_8 : Code := cr C29_6
noncomputable def C29_9 : Code := cr C29_5
noncomputable def C29_10 : Code := cr C29_2
noncomputable def C29_11 : Code := cl C29_10
noncomputable def R29_3 : Array Oper := regOps C29_11
noncomputable def C29_12 : Code := cr C29_10
noncomputable def C29_13 : Code := cl C29_12
noncomputable def C29_14 : Code := cl C29_13
noncomputable def R29_4 : Array Oper := regOps C29_14
noncomputable def C29_15 : Code := cr C29_13
noncomputable def C29_16 : Code := cl C29_15
noncomputable def C29_17 : Code := cl C29_16
noncomputable def R29_5 : Array Oper := regOps C29_17
noncomputable def C29_18 : Code := cr C29_16
noncomputable def C29_19 : Code := cl C29_18
noncomputable def R29_6 : Array Oper := regOps C29_19
noncomputable def C29_20 : Code := cr C29_18
noncomputable def C29_21 : Code := cl C29_20
noncomputable def R29_7 : Array Oper := regOps C29_21
noncomputable def C29_22 : Code := cr C29_20
noncomputable def C29_23 : Code := cl C29_22
noncomputable def C29_24 : Code := cl C29_23
noncomputable def R29_8 : Array Oper := regOps C29_24
noncomputable def C29_25 : Code := cr C29_23
noncomputable def R29_9 : Array Oper := regOps C29_25
noncomputable def C29_26 : Code := cr C29_22
noncomputable def C29_27 : Code := cr C29_12
noncomputable def C29_28 : Code := cl C29_27
noncomputable def R29_10 : Array Oper := regOps C29_28
noncomputable def C29_29 : Code := cr C29_27
noncomputable def C29_30 : Code := cl C29_29
noncomputable def R29_11 : Array Oper := regOps C29_30
noncomputable def C29_31 : Code := cr C29_29
noncomputable def C29_32 : Code := cl C29_31
noncomputable def C29_33 : Code := cl C29_32
noncomputable def R29_12 : Array Oper := regOps C29_33
noncomputable def C29_34 : Code := cr C29_32
noncomputable def C29_35 : Code := cl C29_34
noncomputable def C29_36 : Code := cl C29_35
noncomputable def R29_13 : Array Oper := regOps C29_36
noncomputable def C29_37 : Code := cr C29_35
noncomputable def C29_38 : Code := cr C29_34
noncomputable def C29_39 : Code := cr C29_31
noncomputable def C29_40 : Code := cl C29_39
noncomputable def C29_41 : Code := cl C29_40
noncomputable def R29_14 : Array Oper := regOps C29_41
noncomputable def C29_42 : Code := cr C29_40
noncomputable def C29_43 : Code := cl C29_42
noncomputable def R29_15 : Array Oper := regOps C29_43
noncomputable def C29_44 : Code := cr C29_42
noncomputable def C29_45 : Code := cr C29_39
noncomputable def C29_46 : Code := cl C29_45
noncomputable def R29_16 : Array Oper := regOps C29_46
noncomputable def C29_47 : Code := cr C29_45
noncomputable def C29_48 : Code := cl C29_47
noncomputable def C29_49 : Code := cl C29_48
noncomputable def R29_17 : Array Oper := regOps C29_49
noncomputable def C29_50 : Code := cr C29_48
noncomputable def C29_51 : Code := cl C29_50
noncomputable def C29_52 : Code := cl C29_51
noncomputable def R29_18 : Array Oper := regOps C29_52
noncomputable def C29_53 : Code := cr C29_51
noncomputable def C29_54 : Code := cr C29_50
noncomputable def C29_55 : Code := cr C29_47
noncomputable def C29_56 : Code := cl C29_55
noncomputable def C29_57 : Code := cl C29_56
noncomputable def R29_19 : Array Oper := regOps C29_57
noncomputable def C29_58 : Code := cr C29_56
noncomputable def C29_59 : Code := cl C29_58
noncomputable def C29_60 : Code := cl C29_59
noncomputable def R29_20 : Array Oper := regOps C29_60
noncomputable def C29_61 : Code := cr C29_59
noncomputable def C29_62 : Code := cr C29_58
noncomputable def C29_63 : Code := cr C29_55
noncomputable def C29_64 : Code := cl C29_63
noncomputable def R29_21 : Array Oper := regOps C29_64
noncomputable def C29_65 : Code := cr C29_63
noncomputable def C29_66 : Code := cl C29_65
noncomputable def C29_67 : Code := cl C29_66
noncomputable def R29_22 : Array Oper := regOps C29_67
noncomputable def C29_68 : Code := cr C29_66
noncomputable def C29_69 : Code := cl C29_68
noncomputable def R29_23 : Array Oper := regOps C29_69
noncomputable def C29_70 : Code := cr C29_68
noncomputable def C29_71 : Code := cr C29_65
noncomputable def C29_72 : Code := cl C29_71
noncomputable def R29_24 : Array Oper := regOps C29_72
noncomputable def C29_73 : Code := cr C29_71
theorem R29_0_N : dstsOk 73 R29_0 = true := by decide +kernel
theorem E29_1 : C29_1 = .region 0 R29_0 false := rfl
theorem R29_1_N : dstsOk 73 R29_1 = true := by decide +kernel
theorem E29_4 : C29_4 = .region 1 R29_1 false := rfl
theorem R29_2_N : dstsOk 73 R29_2 = true := by decide +kernel
theorem E29_7 : C29_7 = .region 2 R29_2 false := rfl
theorem E29_8 : C29_8 = .ret := rfl
theorem E29_6 : C29_6 = .seq C29_7 C29_8 := rfl
theorem E29_9 : C29_9 = .skip := rfl
theorem E29_5 : C29_5 = .cond (.tmp 13) C29_6 C29_9 := rfl
theorem E29_3 : C29_3 = .seq C29_4 C29_5 := rfl
theorem R29_3_N : dstsOk 73 R29_3 = true := by decide +kernel
theorem E29_11 : C29_11 = .region 3 R29_3 false := rfl
theorem R29_4_N : dstsOk 73 R29_4 = true := by decide +kernel
theorem E29_14 : C29_14 = .region 4 R29_4 false := rfl
theorem R29_5_N : dstsOk 73 R29_5 = true := by decide +kernel
theorem E29_17 : C29_17 = .region 5 R29_5 false := rfl
theorem R29_6_N : dstsOk 73 R29_6 = true := by decide +kernel
theorem E29_19 : C29_19 = .region 6 R29_6 false := rfl
theorem R29_7_N : dstsOk 73 R29_7 = true := by decide +kernel
theorem E29_21 : C29_21 = .region 7 R29_7 false := rfl
theorem R29_8_N : dstsOk 73 R29_8 = true := by decide +kernel
theorem E29_24 : C29_24 = .region 8 R29_8 false := rfl
theorem R29_9_N : dstsOk 73 R29_9 = true := by decide +kernel
theorem E29_25 : C29_25 = .region 9 R29_9 false := rfl
theorem E29_23 : C29_23 = .seq C29_24 C29_25 := rfl
theorem E29_26 : C29_26 = .skip := rfl
theorem E29_22 : C29_22 = .cond (.tmp 21) C29_23 C29_26 := rfl
theorem E29_20 : C29_20 = .seq C29_21 C29_22 := rfl
theorem E29_18 : C29_18 = .cond (.tmp 17) C29_19 C29_20 := rfl
theorem E29_16 : C29_16 = .seq C29_17 C29_18 := rfl
theorem E29_15 : C29_15 = .block 0 C29_16 := rfl
theorem E29_13 : C29_13 = .seq C29_14 C29_15 := rfl
theorem R29_10_N : dstsOk 73 R29_10 = true := by decide +kernel
theorem E29_28 : C29_28 = .region 10 R29_10 false := rfl
theorem R29_11_N : dstsOk 73 R29_11 = true := by decide +kernel
theorem E29_30 : C29_30 = .region 11 R29_11 false := rfl
theorem R29_12_N : dstsOk 73 R29_12 = true := by decide +kernel
theorem E29_33 : C29_33 = .region 12 R29_12 false := rfl
theorem R29_13_N : dstsOk 73 R29_13 = true := by decide +kernel
theorem E29_36 : C29_36 = .region 13 R29_13 false := rfl
theorem E29_37 : C29_37 = .ret := rfl
theorem E29_35 : C29_35 = .seq C29_36 C29_37 := rfl
theorem E29_38 : C29_38 = .skip := rfl
theorem E29_34 : C29_34 = .cond (.tmp 38) C29_35 C29_38 := rfl
theorem E29_32 : C29_32 = .seq C29_33 C29_34 := rfl
theorem R29_14_N : dstsOk 73 R29_14 = true := by decide +kernel
theorem E29_41 : C29_41 = .region 14 R29_14 false := rfl
theorem R29_15_N : dstsOk 73 R29_15 = true := by decide +kernel
theorem E29_43 : C29_43 = .region 15 R29_15 false := rfl
theorem E29_44 : C29_44 = .skip := rfl
theorem E29_42 : C29_42 = .cond (.tmp 41) C29_43 C29_44 := rfl
theorem E29_40 : C29_40 = .seq C29_41 C29_42 := rfl
theorem R29_16_N : dstsOk 73 R29_16 = true := by decide +kernel
theorem E29_46 : C29_46 = .region 16 R29_16 false := rfl
theorem R29_17_N : dstsOk 73 R29_17 = true := by decide +kernel
theorem E29_49 : C29_49 = .region 17 R29_17 false := rfl
theorem R29_18_N : dstsOk 73 R29_18 = true := by decide +kernel
theorem E29_52 : C29_52 = .region 18 R29_18 false := rfl
theorem E29_53 : C29_53 = .ret := rfl
theorem E29_51 : C29_51 = .seq C29_52 C29_53 := rfl
theorem E29_54 : C29_54 = .skip := rfl
theorem E29_50 : C29_50 = .cond (.tmp 52) C29_51 C29_54 := rfl
theorem E29_48 : C29_48 = .seq C29_49 C29_50 := rfl
theorem R29_19_N : dstsOk 73 R29_19 = true := by decide +kernel
theorem E29_57 : C29_57 = .region 19 R29_19 false := rfl
theorem R29_20_N : dstsOk 73 R29_20 = true := by decide +kernel
theorem E29_60 : C29_60 = .region 20 R29_20 false := rfl
theorem E29_61 : C29_61 = .ret := rfl
theorem E29_59 : C29_59 = .seq C29_60 C29_61 := rfl
theorem E29_62 : C29_62 = .skip := rfl
theorem E29_58 : C29_58 = .cond (.tmp 62) C29_59 C29_62 := rfl
theorem E29_56 : C29_56 = .seq C29_57 C29_58 := rfl
theorem R29_21_N : dstsOk 73 R29_21 = true := by decide +kernel
theorem E29_64 : C29_64 = .region 21 R29_21 false := rfl
theorem R29_22_N : dstsOk 73 R29_22 = true := by decide +kernel
theorem E29_67 : C29_67 = .region 22 R29_22 false := rfl
theorem R29_23_N : dstsOk 73 R29_23 = true := by decide +kernel
theorem E29_69 : C29_69 = .region 23 R29_23 false := rfl
theorem E29_70 : C29_70 = .skip := rfl
theorem E29_68 : C29_68 = .cond (.tmp 69) C29_69 C29_70 := rfl
theorem E29_66 : C29_66 = .seq C29_67 C29_68 := rfl
theorem R29_24_N : dstsOk 73 R29_24 = true := by decide +kernel
theorem E29_72 : C29_72 = .region 24 R29_24 false := rfl
theorem E29_73 : C29_73 = .ret := rfl
theorem E29_71 : C29_71 = .seq C29_72 C29_73 := rfl
theorem E29_65 : C29_65 = .seq C29_66 C29_71 := rfl
theorem E29_63 : C29_63 = .seq C29_64 C29_65 := rfl
theorem E29_55 : C29_55 = .seq C29_56 C29_63 := rfl
theorem E29_47 : C29_47 = .seq C29_48 C29_55 := rfl
theorem E29_45 : C29_45 = .seq C29_46 C29_47 := rfl
theorem E29_39 : C29_39 = .seq C29_40 C29_45 := rfl
theorem E29_31 : C29_31 = .seq C29_32 C29_39 := rfl
theorem E29_29 : C29_29 = .seq C29_30 C29_31 := rfl
theorem E29_27 : C29_27 = .seq C29_28 C29_29 := rfl
theorem E29_12 : C29_12 = .seq C29_13 C29_27 := rfl
theorem E29_10 : C29_10 = .seq C29_11 C29_12 := rfl
theorem E29_2 : C29_2 = .seq C29_3 C29_10 := rfl
theorem E29_0 : C29_0 = .seq C29_1 C29_2 := rfl
def S29_4 (Q : (Int × Value) → AW → Prop) (E : List PanicEntry → AW → Prop)  (n_11 : Int) (aw : AW) : Prop :=
  Q (n_11, (.nilIface )) aw
def S29_3 (Q : (Int × Value) → AW → Prop) (E : List PanicEntry → AW → Prop)  (neg_8 : Bool) (un_9 : Int) (cutoff_10 : Int) (t_52 : Bool) (aw : AW) : Prop :=
  cnd t_52 (Q ((IntKind.i64.wrap (IntKind.u64.wrap (cutoff_10 - 1))), (.iface 58 (.int .i64 1))) aw) (cnd neg_8 (cnd (decide (cutoff_10 < un_9)) (Q ((IntKind.i64.wrap (-(IntKind.i64.wrap cutoff_10))), (.iface 58 (.int .i64 1))) aw) (S29_4 Q E  (IntKind.i64.wrap (-(IntKind.i64.wrap un_9))) aw)) (S29_4 Q E  (IntKind.i64.wrap un_9) aw))
def S29_2 (Q : (Int × Value) → AW → Prop) (E : List PanicEntry → AW → Prop)  (bitSize_2 : Int) (neg_8 : Bool) (un_9 : Int) (aw : AW) : Prop :=
  0 ≤ (IntKind.u64.wrap (IntKind.i64.wrap (bitSize_2 - 1))) ∧ cnd (!neg_8) (S29_3 Q E  neg_8 un_9 (IntKind.u64.wrap (1 * 2 ^ (min (IntKind.u64.wrap (IntKind.i64.wrap (bitSize_2 - 1))).toNat IntKind.u64.bits))) (decide ((IntKind.u64.wrap (1 * 2 ^ (min (IntKind.u64.wrap (IntKind.i64.wrap (bitSize_2 - 1))).toNat IntKind.u64.bits))) ≤ un_9)) aw) (S29_3 Q E  neg_8 un_9 (IntKind.u64.wrap (1 * 2 ^ (min (IntKind.u64.wrap (IntKind.i64.wrap (bitSize_2 - 1))).toNat IntKind.u64.bits))) false aw)
def S29_1 (Q : (Int × Value) → AW → Prop) (E : List PanicEntry → AW → Prop)  (s_0 : ByteArray) (base_1 : Int) (bitSize_2 : Int) (neg_8 : Bool) (aw : AW) : Prop :=
  CallP prog 33 [.string s_0, .int .i64 base_1, .int .i64 bitSize_2] aw sh33 (fun r9 aw10 =>
  nilB (.interface #[("Error", 56)]) r9.2 (.nilIface ) fun q11 =>
  cnd (!q11) (∃ q15, IfEq prog r9.2 (.iface 58 (.int .i64 1)) q15 ∧ cnd (!q15) (Q (0, r9.2) aw10) (cnd (decide (bitSize_2 = 0)) (S29_2 Q E  64 neg_8 r9.1 aw10) (S29_2 Q E  bitSize_2 neg_8 r9.1 aw10))) (cnd (decide (bitSize_2 = 0)) (S29_2 Q E  64 neg_8 r9.1 aw10) (S29_2 Q E  bitSize_2 neg_8 r9.1 aw10))) E
def S29_0 (Q : (Int × Value) → AW → Prop) (E : List PanicEntry → AW → Prop)  (s_0 : ByteArray) (base_1 : Int) (bitSize_2 : Int) (aw : AW) : Prop :=
  cnd (decide (s_0 = (⟨#[]⟩ : ByteArray))) (Q (0, (.iface 58 (.int .i64 2))) aw) (chr s_0 0 fun c22 =>
  cnd (decide (c22 = 43)) (cutS s_0 1 s_0.size fun s27 =>
  S29_1 Q E  s27 base_1 bitSize_2 false aw) (cnd (decide (c22 = 45)) (cutS s_0 1 s_0.size fun s33 =>
  S29_1 Q E  s33 base_1 bitSize_2 true aw) (S29_1 Q E  s_0 base_1 bitSize_2 false aw)))
set_option maxHeartbeats 4000000 in
set_option maxRecDepth 100000 in
theorem S29_4_ok (Q : (Int × Value) → AW → Prop) (E : List PanicEntry → AW → Prop)  (ρ : Env) (n_11 : Int) (aw : AW) (h11 : ρ 11 = .int .i64 n_11) (H : S29_4 Q E  n_11 aw) :
    AGo prog 73 [.code C29_71] ρ [] aw (RR prog f29 73 sh29 Q E) := by
  unfold S29_4 at H
  refine ago_seqE E29_71 ?_
  refine ago_regE E29_72 (l := [0, 1, 2]) rfl ?_
  refine lk (dt := some 72) R29_24_N rfl rfl rfl (opv_move rfl rfl h11) ?_
  refine lk (dt := some 6) R29_24_N rfl rfl rfl (opv_assign rfl rfl rfl) ?_
  refine lk (dt := some 7) R29_24_N rfl rfl rfl (opv_assign rfl rfl rfl) ?_
  refine aops_nil ?_
  exact ago_retE E29_73 (r := (n_11, (.nilIface ))) (ares_2 rfl (oneT rfl) (oneT rfl)) rfl H
set_option maxHeartbeats 4000000 in
set_option maxRecDepth 100000 in
theorem S29_3_ok (Q : (Int × Value) → AW → Prop) (E : List PanicEntry → AW → Prop)  (ρ : Env) (neg_8 : Bool) (un_9 : Int) (cutoff_10 : Int) (t_52 : Bool) (aw : AW) (h8 : ρ 8 = .bool neg_8) (h9 : ρ 9 = .int .u64 un_9) (h10 : ρ 10 = .int .u64 cutoff_10) (h52 : ρ 52 = .bool t_52) (H : S29_3 Q E  neg_8 un_9 cutoff_10 t_52 aw) :
    AGo prog 73 [.code C29_50, .code C29_55] ρ [] aw (RR prog f29 73 sh29 Q E) := by
  unfold S29_3 at H
  refine ago_condE  E29_50 rfl h52 (fun hb1 => ?_) (fun hb1 => ?_)
  · replace H := cnd_t H hb1
    refine ago_seqE E29_51 ?_
    refine ago_regE E29_52 (l := [0, 1, 2, 3, 4, 5]) rfl ?_
    refine lk (dt := some 53) R29_18_N rfl rfl rfl (opv_move rfl rfl h10) ?_
    refine lk (dt := some 54) R29_18_N rfl rfl rfl (opv_sub rfl rfl rfl rfl rfl) ?_
    refine lk (dt := some 55) R29_18_N rfl rfl rfl (opv_conv rfl rfl underlying59 underlying2 rfl) ?_
    refine lk (dt := some 56) R29_18_N rfl rfl rfl (opv_mkIface rfl rfl underlying58 rfl rfl) ?_
    refine lk (dt := some 6) R29_18_N rfl rfl rfl (opv_assign rfl rfl rfl) ?_
    refine lk (dt := some 7) R29_18_N rfl rfl rfl (opv_assign rfl rfl rfl) ?_
    refine aops_nil ?_
    exact ago_retE E29_53 (r := ((IntKind.i64.wrap (IntKind.u64.wrap (cutoff_10 - 1))), (.iface 58 (.int .i64 1)))) (ares_2 rfl (oneT rfl) (oneT rfl)) rfl H
  · replace H := cnd_f H hb1
    refine ago_skipE E29_54 ?_
    refine ago_seqE E29_55 ?_
    refine ago_seqE E29_56 ?_
    refine ago_regE E29_57 (l := [0, 1, 2, 3, 4, 5]) rfl ?_
    refine lk (dt := some 57) R29_19_N rfl rfl rfl (opv_move rfl rfl h8) ?_
    refine lk (dt := some 58) R29_19_N rfl rfl rfl (opv_move rfl rfl rfl) ?_
    rcases Bool.eq_false_or_eq_true neg_8 with hb2 | hb2
    · replace H := cnd_t H hb2
      refine lk (dt := some 59) R29_19_N rfl rfl ⟨_, rfl, .inl ⟨_, rfl, gq hb2 rfl⟩⟩ (opv_move rfl rfl h9) ?_
      refine lk (dt := some 60) R29_19_N rfl rfl ⟨_, rfl, .inl ⟨_, rfl, gq hb2 rfl⟩⟩ (opv_move rfl rfl h10) ?_
      refine lk (dt := some 61) R29_19_N rfl rfl ⟨_, rfl, .inl ⟨_, rfl, gq hb2 rfl⟩⟩ (opv_gt rfl rfl rfl rfl rfl) ?_
      refine lk (dt := some 62) R29_19_N rfl rfl rfl (ov_pickT rfl rfl rfl rfl rfl hb2 rfl) ?_
      refine aops_nil ?_
      refine ago_condE  E29_58 rfl rfl (fun hb3 => ?_) (fun hb3 => ?_)
      · replace H := cnd_t H hb3
        refine ago_seqE E29_59 ?_
        refine ago_regE E29_60 (l := [0, 1, 2, 3, 4, 5]) rfl ?_
        refine lk (dt := some 63) R29_20_N rfl rfl rfl (opv_move rfl rfl h10) ?_
        refine lk (dt := some 64) R29_20_N rfl rfl rfl (opv_conv rfl rfl underlying59 underlying2 rfl) ?_
        refine lk (dt := some 65) R29_20_N rfl rfl rfl (opv_neg rfl rfl rfl) ?_
        refine lk (dt := some 66) R29_20_N rfl rfl rfl (opv_mkIface rfl rfl underlying58 rfl rfl) ?_
        refine lk (dt := some 6) R29_20_N rfl rfl rfl (opv_assign rfl rfl rfl) ?_
        refine lk (dt := some 7) R29_20_N rfl rfl rfl (opv_assign rfl rfl rfl) ?_
        refine aops_nil ?_
        exact ago_retE E29_61 (r := ((IntKind.i64.wrap (-(IntKind.i64.wrap cutoff_10))), (.iface 58 (.int .i64 1)))) (ares_2 rfl (oneT rfl) (oneT rfl)) rfl H
      · replace H := cnd_f H hb3
        refine ago_skipE E29_62 ?_
        refine ago_seqE E29_63 ?_
        refine ago_regE E29_64 (l := [0, 1, 2]) rfl ?_
        refine lk (dt := some 67) R29_21_N rfl rfl rfl (opv_move rfl rfl h9) ?_
        refine lk (dt := some 68) R29_21_N rfl rfl rfl (opv_conv rfl rfl underlying59 underlying2 rfl) ?_
        refine lk (dt := some 11) R29_21_N rfl rfl rfl (opv_assign rfl rfl rfl) ?_
        refine aops_nil ?_
        refine ago_seqE E29_65 ?_
        refine ago_seqE E29_66 ?_
        refine ago_regE E29_67 (l := [0]) rfl ?_
        refine lk (dt := some 69) R29_22_N rfl rfl rfl (opv_move rfl rfl h8) ?_
        refine aops_nil ?_
        refine ago_condE  E29_68 rfl rfl (fun h => ?_) (fun h => tf (hb2.symm.trans h))
        refine ago_regE E29_69 (l := [0, 1, 2]) rfl ?_
        refine lk (dt := some 70) R29_23_N rfl rfl rfl (opv_move rfl rfl rfl) ?_
        refine lk (dt := some 71) R29_23_N rfl rfl rfl (opv_neg rfl rfl rfl) ?_
        refine lk (dt := some 11) R29_23_N rfl rfl rfl (opv_assign rfl rfl rfl) ?_
        refine aops_nil ?_
        exact S29_4_ok Q E  _ (IntKind.i64.wrap (-(IntKind.i64.wrap un_9))) aw rfl H
    · replace H := cnd_f H hb2
      refine lk_skip (dt := some 59) R29_19_N rfl rfl ⟨_, rfl, .inl ⟨_, rfl, gq hb2 rfl⟩⟩ ?_
      refine lk_skip (dt := some 60) R29_19_N rfl rfl ⟨_, rfl, .inl ⟨_, rfl, gq hb2 rfl⟩⟩ ?_
      refine lk_skip (dt := some 61) R29_19_N rfl rfl ⟨_, rfl, .inl ⟨_, rfl, gq hb2 rfl⟩⟩ ?_
      refine lk (dt := some 62) R29_19_N rfl rfl rfl (ov_pickF rfl rfl rfl rfl rfl hb2 rfl) ?_
      refine aops_nil ?_
      refine ago_condE  E29_58 rfl rfl (fun h => ft h) (fun h => ?_)
      refine ago_skipE E29_62 ?_
      refine ago_seqE E29_63 ?_
      refine ago_regE E29_64 (l := [0, 1, 2]) rfl ?_
      refine lk (dt := some 67) R29_21_N rfl rfl rfl (opv_move rfl rfl h9) ?_
      refine lk (dt := some 68) R29_21_N rfl rfl rfl (opv_conv rfl rfl underlying59 underlying2 rfl) ?_
      refine lk (dt := some 11) R29_21_N rfl rfl rfl (opv_assign rfl rfl rfl) ?_
      refine aops_nil ?_
      refine ago_seqE E29_65 ?_
      refine ago_seqE E29_66 ?_
      refine ago_regE E29_67 (l := [0]) rfl ?_
      refine lk (dt := some 69) R29_22_N rfl rfl rfl (opv_move rfl rfl h8) ?_
      refine aops_nil ?_
      refine ago_condE  E29_68 rfl rfl (fun h => ft (hb2.symm.trans h)) (fun h => ?_)
      refine ago_skipE E29_70 ?_
      exact S29_4_ok Q E  _ (IntKind.i64.wrap un_9) aw rfl H
set_option maxHeartbeats 4000000 in
set_option maxRecDepth 100000 in
theorem S29_2_ok (Q : (Int × Value) → AW → Prop) (E : List PanicEntry → AW → Prop)  (ρ : Env) (bitSize_2 : Int) (neg_8 : Bool) (un_9 : Int) (aw : AW) (h2 : ρ 2 = .int .i64 bitSize_2) (h8 : ρ 8 = .bool neg_8) (h9 : ρ 9 = .int .u64 un_9) (H : S29_2 Q E  bitSize_2 neg_8 un_9 aw) :
    AGo prog 73 [.code C29_45] ρ [] aw (RR prog f29 73 sh29 Q E) := by
  unfold S29_2 at H
  refine ago_seqE E29_45 ?_
  refine ago_regE E29_46 (l := [0, 1, 2, 3, 4]) rfl ?_
  refine lk (dt := some 42) R29_16_N rfl rfl rfl (opv_move rfl rfl h2) ?_
  refine lk (dt := some 43) R29_16_N rfl rfl rfl (opv_sub rfl rfl rfl rfl rfl) ?_
  refine lk (dt := some 44) R29_16_N rfl rfl rfl (opv_conv rfl rfl underlying3 underlying62 rfl) ?_
  obtain ⟨hz7, H⟩ := H
  refine lk (dt := some 45) R29_16_N rfl rfl rfl (opv_shl rfl rfl rfl rfl rfl hz7) ?_
  refine lk (dt := some 10) R29_16_N rfl rfl rfl (opv_assign rfl rfl rfl) ?_
  refine aops_nil ?_
  refine ago_seqE E29_47 ?_
  refine ago_seqE E29_48 ?_
  refine ago_regE E29_49 (l := [0, 1, 2, 3, 4, 5, 6]) rfl ?_
  refine lk (dt := some 46) R29_17_N rfl rfl rfl (opv_move rfl rfl h8) ?_
  refine lk (dt := some 47) R29_17_N rfl rfl rfl (opv_not rfl rfl rfl) ?_
  refine lk (dt := some 48) R29_17_N rfl rfl rfl (opv_move rfl rfl rfl) ?_
  rcases Bool.eq_false_or_eq_true (!neg_8) with hb8 | hb8
  · replace H := cnd_t H hb8
    refine lk (dt := some 49) R29_17_N rfl rfl ⟨_, rfl, .inl ⟨_, rfl, gq hb8 rfl⟩⟩ (opv_move rfl rfl h9) ?_
    refine lk (dt := some 50) R29_17_N rfl rfl ⟨_, rfl, .inl ⟨_, rfl, gq hb8 rfl⟩⟩ (opv_move rfl rfl rfl) ?_
    refine lk (dt := some 51) R29_17_N rfl rfl ⟨_, rfl, .inl ⟨_, rfl, gq hb8 rfl⟩⟩ (opv_ge rfl rfl rfl rfl rfl) ?_
    refine lk (dt := some 52) R29_17_N rfl rfl rfl (ov_pickT rfl rfl rfl rfl rfl hb8 rfl) ?_
    refine aops_nil ?_
    exact S29_3_ok Q E  _ neg_8 un_9 (IntKind.u64.wrap (1 * 2 ^ (min (IntKind.u64.wrap (IntKind.i64.wrap (bitSize_2 - 1))).toNat IntKind.u64.bits))) (decide ((IntKind.u64.wrap (1 * 2 ^ (min (IntKind.u64.wrap (IntKind.i64.wrap (bitSize_2 - 1))).toNat IntKind.u64.bits))) ≤ un_9)) aw h8 h9 rfl rfl H
  · replace H := cnd_f H hb8
    refine lk_skip (dt := some 49) R29_17_N rfl rfl ⟨_, rfl, .inl ⟨_, rfl, gq hb8 rfl⟩⟩ ?_
    refine lk_skip (dt := some 50) R29_17_N rfl rfl ⟨_, rfl, .inl ⟨_, rfl, gq hb8 rfl⟩⟩ ?_
    refine lk_skip (dt := some 51) R29_17_N rfl rfl ⟨_, rfl, .inl ⟨_, rfl, gq hb8 rfl⟩⟩ ?_
    refine lk (dt := some 52) R29_17_N rfl rfl rfl (ov_pickF rfl rfl rfl rfl rfl hb8 rfl) ?_
    refine aops_nil ?_
    exact S29_3_ok Q E  _ neg_8 un_9 (IntKind.u64.wrap (1 * 2 ^ (min (IntKind.u64.wrap (IntKind.i64.wrap (bitSize_2 - 1))).toNat IntKind.u64.bits))) false aw h8 h9 rfl rfl H
set_option maxHeartbeats 4000000 in
set_option maxRecDepth 100000 in
theorem S29_1_ok (Q : (Int × Value) → AW → Prop) (E : List PanicEntry → AW → Prop)  (ρ : Env) (s_0 : ByteArray) (base_1 : Int) (bitSize_2 : Int) (neg_8 : Bool) (aw : AW) (h0 : ρ 0 = .string s_0) (h1 : ρ 1 = .int .i64 base_1) (h2 : ρ 2 = .int .i64 bitSize_2) (h8 : ρ 8 = .bool neg_8) (H : S29_1 Q E  s_0 base_1 bitSize_2 neg_8 aw) :
    AGo prog 73 [.inBlock 0, .code C29_27] ρ [] aw (RR prog f29 73 sh29 Q E) := by
  unfold S29_1 at H
  refine ago_inBlock ?_
  refine ago_seqE E29_27 ?_
  refine ago_regE E29_28 (l := [0]) rfl ?_
  refine lk (dt := some 9) R29_10_N rfl rfl rfl (opv_assign rfl rfl rfl) ?_
  refine aops_nil ?_
  refine ago_seqE E29_29 ?_
  refine ago_regE E29_30 (l := [0, 1, 2, 3, 4, 5, 6, 7, 8]) rfl ?_
  refine lk (dt := some 26) R29_11_N rfl rfl rfl (opv_move rfl rfl h0) ?_
  refine lk (dt := some 27) R29_11_N rfl rfl rfl (opv_move rfl rfl h1) ?_
  refine lk (dt := some 28) R29_11_N rfl rfl rfl (opv_move rfl rfl h2) ?_
  refine lk_call (dt := some 29) R29_11_N rfl rfl rfl (opc_of rfl rfl is33 (ma_cons rfl (ma_cons rfl (ma_cons rfl rfl)))) H (fun _ _ h => ⟨rfl, h⟩) fun r9 aw10 H => ?_
  refine lk (dt := some 25) R29_11_N rfl rfl rfl (opv_move rfl rfl rfl) ?_
  refine lk (dt := some 30) R29_11_N rfl rfl rfl (opv_extract rfl rfl rfl rfl) ?_
  refine lk (dt := some 31) R29_11_N rfl rfl rfl (opv_extract rfl rfl rfl rfl) ?_
  refine lk (dt := some 9) R29_11_N rfl rfl rfl (opv_assign rfl rfl rfl) ?_
  refine lk (dt := some 7) R29_11_N rfl rfl rfl (opv_assign rfl rfl rfl) ?_
  refine aops_nil ?_
  refine ago_seqE E29_31 ?_
  refine ago_seqE E29_32 ?_
  refine ago_regE E29_33 (l := [0, 1, 2, 3, 4, 5, 6]) rfl ?_
  refine lk (dt := some 32) R29_12_N rfl rfl rfl (opv_move rfl rfl rfl) ?_
  obtain ⟨q11, hf12, hq13, H⟩ := H
  refine lk (dt := some 33) R29_12_N rfl rfl rfl (ov_neNil rfl rfl underlying47 rfl hf12 hq13) ?_
  refine lk (dt := some 34) R29_12_N rfl rfl rfl (opv_move rfl rfl rfl) ?_
  rcases Bool.eq_false_or_eq_true (!q11) with hb14 | hb14
  · replace H := cnd_t H hb14
    refine lk (dt := some 35) R29_12_N rfl rfl ⟨_, rfl, .inl ⟨_, rfl, gq hb14 rfl⟩⟩ (opv_move rfl rfl rfl) ?_
    refine lk (dt := some 36) R29_12_N rfl rfl ⟨_, rfl, .inl ⟨_, rfl, gq hb14 rfl⟩⟩ (opv_mkIface rfl rfl underlying58 rfl rfl) ?_
    obtain ⟨q15, hq16, H⟩ := H
    refine lk (dt := some 37) R29_12_N rfl rfl ⟨_, rfl, .inl ⟨_, rfl, gq hb14 rfl⟩⟩ (ov_ifNe rfl rfl rfl underlying47 rfl rfl hq16) ?_
    refine lk (dt := some 38) R29_12_N rfl rfl rfl (ov_pickT rfl rfl rfl rfl rfl hb14 rfl) ?_
    refine aops_nil ?_
    refine ago_condE  E29_34 rfl rfl (fun hb17 => ?_) (fun hb17 => ?_)
    · replace H := cnd_t H hb17
      refine ago_seqE E29_35 ?_
      refine ago_cut (fun ρ => ρ 7 = r9.2 ∧ True) ⟨rfl, trivial⟩ (fun ρ ⟨h7, _⟩ => ?_)
      refine ago_regE E29_36 (l := [0, 1, 2]) rfl ?_
      refine lk (dt := some 39) R29_13_N rfl rfl rfl (opv_move rfl rfl h7) ?_
      refine lk (dt := some 6) R29_13_N rfl rfl rfl (opv_assign rfl rfl rfl) ?_
      refine lk (dt := some 7) R29_13_N rfl rfl rfl (opv_assign rfl rfl rfl) ?_
      refine aops_nil ?_
      exact ago_retE E29_37 (r := (0, r9.2)) (ares_2 rfl (oneT rfl) (oneT rfl)) rfl H
    · replace H := cnd_f H hb17
      refine ago_skipE E29_38 ?_
      refine ago_seqE E29_39 ?_
      refine ago_seqE E29_40 ?_
      refine ago_cut (fun ρ => ρ 2 = .int .i64 bitSize_2 ∧ ρ 8 = .bool neg_8 ∧ ρ 9 = .int .u64 r9.1 ∧ True) ⟨h2, h8, rfl, trivial⟩ (fun ρ ⟨h2, h8, h9, _⟩ => ?_)
      refine ago_regE E29_41 (l := [0, 1]) rfl ?_
      refine lk (dt := some 40) R29_14_N rfl rfl rfl (opv_move rfl rfl h2) ?_
      refine lk (dt := some 41) R29_14_N rfl rfl rfl (opv_eqI rfl rfl rfl rfl rfl) ?_
      refine aops_nil ?_
      refine ago_condE  E29_42 rfl rfl (fun hb18 => ?_) (fun hb18 => ?_)
      · replace H := cnd_t H hb18
        refine ago_regE E29_43 (l := [0]) rfl ?_
        refine lk (dt := some 2) R29_15_N rfl rfl rfl (opv_assign rfl rfl rfl) ?_
        refine aops_nil ?_
        exact S29_2_ok Q E  _ 64 neg_8 r9.1 aw10 rfl h8 h9 H
      · replace H := cnd_f H hb18
        refine ago_skipE E29_44 ?_
        exact S29_2_ok Q E  _ bitSize_2 neg_8 r9.1 aw10 h2 h8 h9 H
  · replace H := cnd_f H hb14
    refine lk_skip (dt := some 35) R29_12_N rfl rfl ⟨_, rfl, .inl ⟨_, rfl, gq hb14 rfl⟩⟩ ?_
    refine lk_skip (dt := some 36) R29_12_N rfl rfl ⟨_, rfl, .inl ⟨_, rfl, gq hb14 rfl⟩⟩ ?_
    refine lk_skip (dt := some 37) R29_12_N rfl rfl ⟨_, rfl, .inl ⟨_, rfl, gq hb14 rfl⟩⟩ ?_
    refine lk (dt := some 38) R29_12_N rfl rfl rfl (ov_pickF rfl rfl rfl rfl rfl hb14 rfl) ?_
    refine aops_nil ?_
    refine ago_condE  E29_34 rfl rfl (fun h => ft h) (fun h => ?_)
    refine ago_skipE E29_38 ?_
    refine ago_seqE E29_39 ?_
    refine ago_seqE E29_40 ?_
    refine ago_cut (fun ρ => ρ 2 = .int .i64 bitSize_2 ∧ ρ 8 = .bool neg_8 ∧ ρ 9 = .int .u64 r9.1 ∧ True) ⟨h2, h8, rfl, trivial⟩ (fun ρ ⟨h2, h8, h9, _⟩ => ?_)
    refine ago_regE E29_41 (l := [0, 1]) rfl ?_
    refine lk (dt := some 40) R29_14_N rfl rfl rfl (opv_move rfl rfl h2) ?_
    refine lk (dt := some 41) R29_14_N rfl rfl rfl (opv_eqI rfl rfl rfl rfl rfl) ?_
    refine aops_nil ?_
    refine ago_condE  E29_42 rfl rfl (fun hb20 => ?_) (fun hb20 => ?_)
    · replace H := cnd_t H hb20
      refine ago_regE E29_43 (l := [0]) rfl ?_
      refine lk (dt := some 2) R29_15_N rfl rfl rfl (opv_assign rfl rfl rfl) ?_
      refine aops_nil ?_
      exact S29_2_ok Q E  _ 64 neg_8 r9.1 aw10 rfl h8 h9 H
    · replace H := cnd_f H hb20
      refine ago_skipE E29_44 ?_
      exact S29_2_ok Q E  _ bitSize_2 neg_8 r9.1 aw10 h2 h8 h9 H
set_option maxHeartbeats 4000000 in
set_option maxRecDepth 100000 in
theorem S29_0_ok (Q : (Int × Value) → AW → Prop) (E : List PanicEntry → AW → Prop)  (ρ : Env) (s_0 : ByteArray) (base_1 : Int) (bitSize_2 : Int) (aw : AW) (h0 : ρ 0 = .string s_0) (h1 : ρ 1 = .int .i64 base_1) (h2 : ρ 2 = .int .i64 bitSize_2) (H : S29_0 Q E  s_0 base_1 bitSize_2 aw) :
    AGo prog 73 [.code C29_0] ρ [] aw (RR prog f29 73 sh29 Q E) := by
  unfold S29_0 at H
  refine ago_seqE E29_0 ?_
  refine ago_regE E29_1 (l := [0, 1]) rfl ?_
  refine lk (dt := some 6) R29_0_N rfl rfl rfl (opv_assign rfl rfl rfl) ?_
  refine lk (dt := some 7) R29_0_N rfl rfl rfl (opv_assign rfl rfl rfl) ?_
  refine aops_nil ?_
  refine ago_seqE E29_2 ?_
  refine ago_seqE E29_3 ?_
  refine ago_regE E29_4 (l := [0, 1]) rfl ?_
  refine lk (dt := some 12) R29_1_N rfl rfl rfl (opv_move rfl rfl h0) ?_
  refine lk (dt := some 13) R29_1_N rfl rfl rfl (opv_eqS rfl rfl rfl rfl rfl) ?_
  refine aops_nil ?_
  refine ago_condE  E29_5 rfl rfl (fun hb21 => ?_) (fun hb21 => ?_)
  · replace H := cnd_t H hb21
    refine ago_seqE E29_6 ?_
    refine ago_regE E29_7 (l := [0, 1, 2]) rfl ?_
    refine lk (dt := some 14) R29_2_N rfl rfl rfl (opv_mkIface rfl rfl underlying58 rfl rfl) ?_
    refine lk (dt := some 6) R29_2_N rfl rfl rfl (opv_assign rfl rfl rfl) ?_
    refine lk (dt := some 7) R29_2_N rfl rfl rfl (opv_assign rfl rfl rfl) ?_
    refine aops_nil ?_
    exact ago_retE E29_8 (r := (0, (.iface 58 (.int .i64 2)))) (ares_2 rfl (oneT rfl) (oneT rfl)) rfl H
  · replace H := cnd_f H hb21
    refine ago_skipE E29_9 ?_
    refine ago_seqE E29_10 ?_
    refine ago_regE E29_11 (l := [0]) rfl ?_
    refine lk (dt := some 8) R29_3_N rfl rfl rfl (opv_assign rfl rfl rfl) ?_
    refine aops_nil ?_
    refine ago_seqE E29_12 ?_
    refine ago_seqE E29_13 ?_
    refine ago_regE E29_14 (l := [0, 1]) rfl ?_
    refine lk (dt := some 15) R29_4_N rfl rfl rfl (opv_move rfl rfl h0) ?_
    obtain ⟨c22, h023, hj24, hv25, H⟩ := H
    refine lk (dt := some 16) R29_4_N rfl rfl rfl (ov_chr rfl rfl rfl underlying9 rfl rfl h023 hj24 hv25) ?_
    refine aops_nil ?_
    refine ago_blockE E29_15 ?_
    refine ago_seqE E29_16 ?_
    refine ago_regE E29_17 (l := [0, 1]) rfl ?_
    refine lk (dt := some 18) R29_5_N rfl rfl rfl (opv_eqI rfl rfl rfl rfl rfl) ?_
    refine lk (dt := some 17) R29_5_N rfl rfl rfl (opv_assign rfl rfl rfl) ?_
    refine aops_nil ?_
    refine ago_condE  E29_18 rfl rfl (fun hb26 => ?_) (fun hb26 => ?_)
    · replace H := cnd_t H hb26
      refine ago_regE E29_19 (l := [0, 1, 2]) rfl ?_
      refine lk (dt := some 19) R29_6_N rfl rfl rfl (opv_move rfl rfl h0) ?_
      obtain ⟨s27, hq28, hq29, hq30, hq31, H⟩ := H
      refine lk (dt := some 20) R29_6_N rfl rfl rfl (ov_cutS rfl rfl underlying9 rfl (bndS rfl) (bndN _ _ _) hq28 hq29 hq30 hq31) ?_
      refine lk (dt := some 0) R29_6_N rfl rfl rfl (opv_assign rfl rfl rfl) ?_
      refine aops_nil ?_
      exact S29_1_ok Q E  _ s27 base_1 bitSize_2 false aw rfl h1 h2 rfl H
    · replace H := cnd_f H hb26
      refine ago_seqE E29_20 ?_
      refine ago_regE E29_21 (l := [0, 1]) rfl ?_
      refine lk (dt := some 22) R29_7_N rfl rfl rfl (opv_eqI rfl rfl rfl rfl rfl) ?_
      refine lk (dt := some 21) R29_7_N rfl rfl rfl (opv_assign rfl rfl rfl) ?_
      refine aops_nil ?_
      refine ago_condE  E29_22 rfl rfl (fun hb32 => ?_) (fun hb32 => ?_)
      · replace H := cnd_t H hb32
        refine ago_seqE E29_23 ?_
        refine ago_regE E29_24 (l := [0, 1, 2]) rfl ?_
        refine lk (dt := some 23) R29_8_N rfl rfl rfl (opv_move rfl rfl h0) ?_
        obtain ⟨s33, hq34, hq35, hq36, hq37, H⟩ := H
        refine lk (dt := some 24) R29_8_N rfl rfl rfl (ov_cutS rfl rfl underlying9 rfl (bndS rfl) (bndN _ _ _) hq34 hq35 hq36 hq37) ?_
        refine lk (dt := some 0) R29_8_N rfl rfl rfl (opv_assign rfl rfl rfl) ?_
        refine aops_nil ?_
        refine ago_cut (fun ρ => ρ 0 = .string s33 ∧ ρ 1 = .int .i64 base_1 ∧ ρ 2 = .int .i64 bitSize_2 ∧ True) ⟨rfl, h1, h2, trivial⟩ (fun ρ ⟨h0, h1, h2, _⟩ => ?_)
        refine ago_regE E29_25 (l := [0]) rfl ?_
        refine lk (dt := some 8) R29_9_N rfl rfl rfl (opv_assign rfl rfl rfl) ?_
        refine aops_nil ?_
        exact S29_1_ok Q E  _ s33 base_1 bitSize_2 true aw h0 h1 h2 rfl H
      · replace H := cnd_f H hb32
        refine ago_skipE E29_26 ?_
        exact S29_1_ok Q E  _ s_0 base_1 bitSize_2 false aw h0 h1 h2 rfl H
theorem F29_ok {Q : (Int × Value) → AW → Prop} {E : List PanicEntry → AW → Prop} (s_0 : ByteArray) (base_1 : Int) (bitSize_2 : Int) (aw : AW) (H : S29_0 Q E s_0 base_1 bitSize_2 aw) : CallP prog 29 [.string s_0, .int .i64 base_1, .int .i64 bitSize_2] aw sh29 Q E :=
  callP_of func29 C29_is rfl (Nat.le_of_ble_eq_true rfl) (S29_0_ok Q E _ s_0 base_1 bitSize_2 aw rfl rfl rfl H)
/-! ### internal/strconv.ParseUint: function 33 -/
noncomputable def C33_0 : Code := bodyOf f33
theorem C33_is : f33.body = some C33_0 := by kernel_rfl
noncomputable def C33_1 : Code := cl C33_0
noncomputable def R33_0 : Array Oper := regOps C33_1
noncomputable def C33_2 : Code := cr C33_0
noncomputable def C33_3 : Code := cl C33_2
noncomputable def C33_4 : Code := cl C33_3
noncomputable def R33_1 : Array Oper := regOps C33_4
noncomputable def C33_5 : Code := cr C33_3
noncomputable def C33_6 : Code := cl C33_5
noncomputable def C33_7 : Code := cl C33_6
noncomputable def R33_2 : Array Oper := regOps C33_7
noncomputable def C33_8 : Code := cr C33_6
noncomputable def C33_9 : Code := cr C33_5
noncomputable def C33_10 : Code := cr C33_2
noncomputable def C33_11 : Code := cl C33_10
noncomputable def R33_3 : Array Oper := regOps C33_11
noncomputable def C33_12 : Code := cr C33_10
noncomputable def C33_13 : Code := cl C33_12
noncomputable def R33_4 : Array Oper := regOps C33_13
noncomputable def C33_14 : Code := cr C33_12
noncomputable def C33_15 : Code := cl C33_14
noncomputable def C33_16 : Code := cl C33_15
noncomputable def C33_17 : Code := cl C33_16
noncomputable def R33_6 : Array Oper := regOps C33_17
noncomputable def C33_18 : Code := cr C33_16
noncomputable def C33_19 : Code := cl C33_18
noncomputable def C33_20 : Code := cr C33_18
noncomputable def C33_21 : Code := cl C33_20
noncomputable def R33_7 : Array Oper := regOps C33_21
noncomputable def C33_22 : Code := cr C33_20
noncomputable def C33_23 : Code := cl C33_22
noncomputable def C33_24 : Code := cl C33_23
noncomputable def R33_8 : Array Oper := regOps C33_24
noncomputable def C33_25 : Code := cr C33_23
noncomputable def C33_26 : Code := cl C33_25
noncomputable def R33_9 : Array Oper := regOps C33_26
noncomputable def C33_27 : Code := cr C33_25
noncomputable def C33_28 : Code := cl C33_27
noncomputable def C33_29 : Code := cl C33_28
noncomputable def C33_30 : Code := cl C33_29
noncomputable def R33_12 : Array Oper := regOps C33_30
noncomputable def C33_31 : Code := cr C33_29
noncomputable def C33_32 : Code := cl C33_31
noncomputable def C33_33 : Code := cl C33_32
noncomputable def R33_13 : Array Oper := regOps C33_33
noncomputable def C33_34 : Code := cr C33_32
noncomputable def R33_14 : Array Oper := regOps C33_34
noncomputable def C33_35 : Code := cr C33_31
noncomputable def C33_36 : Code := cl C33_35
noncomputable def R33_15 : Array Oper := regOps C33_36
noncomputable def C33_37 : Code := cr C33_35
noncomputable def C33_38 : Code := cl C33_37
noncomputable def C33_39 : Code := cl C33_38
noncomputable def R33_16 : Array Oper := regOps C33_39
noncomputable def C33_40 : Code := cr C33_38
noncomputable def R33_17 : Array Oper := regOps C33_40
noncomputable def C33_41 : Code := cr C33_37
noncomputable def C33_42 : Code := cl C33_41
noncomputable def R33_18 : Array Oper := regOps C33_42
noncomputable def C33_43 : Code := cr C33_41
noncomputable def C33_44 : Code := cl C33_43
noncomputable def C33_45 : Code := cl C33_44
noncomputable def R33_19 : Array Oper := regOps C33_45
noncomputable def C33_46 : Code := cr C33_44
noncomputable def R33_20 : Array Oper := regOps C33_46
noncomputable def C33_47 : Code := cr C33_43
noncomputable def C33_48 : Code := cl C33_47
noncomputable def R33_10 : Array Oper := regOps C33_48
noncomputable def C33_49 : Code := cr C33_47
noncomputable def R33_11 : Array Oper := regOps C33_49
noncomputable def C33_50 : Code := cr C33_27
noncomputable def C33_51 : Code := cr C33_22
noncomputable def C33_52 : Code := cl C33_51
noncomputable def R33_5 : Array Oper := regOps C33_52
noncomputable def C33_53 : Code := cr C33_51
noncomputable def C33_54 : Code := cr C33_14
noncomputable def C33_55 : Code := cl C33_54
noncomputable def C33_56 : Code := cl C33_55
noncomputable def R33_21 : Array Oper := regOps C33_56
noncomputable def C33_57 : Code := cr C33_55
noncomputable def C33_58 : Code := cl C33_57
noncomputable def R33_22 : Array Oper := regOps C33_58
noncomputable def C33_59 : Code := cr C33_57
noncomputable def C33_60 : Code := cl C33_59
noncomputable def R33_23 : Array Oper := regOps C33_60
noncomputable def C33_61 : Code := cr C33_59
noncomputable def C33_62 : Code := cl C33_61
noncomputable def C33_63 : Code := cl C33_62
noncomputable def R33_24 : Array Oper := regOps C33_63
noncomputable def C33_64 : Code := cr C33_62
noncomputable def C33_65 : Code := cr C33_61
noncomputable def C33_66 : Code := cr C33_54
noncomputable def C33_67 : Code := cl C33_66
noncomputable def R33_25 : Array Oper := regOps C33_67
noncomputable def C33_68 : Code := cr C33_66
noncomputable def C33_69 : Code := cl C33_68
noncomputable def C33_70 : Code := cl C33_69
noncomputable def R33_26 : Array Oper := regOps C33_70
noncomputable def C33_71 : Code := cr C33_69
noncomputable def C33_72 : Code := cl C33_71
noncomputable def C33_73 : Code := cl C33_72
noncomputable def R33_28 : Array Oper := regOps C33_73
noncomputable def C33_74 : Code := cr C33_72
noncomputable def C33_75 : Code := cl C33_74
noncomputable def R33_29 : Array Oper := regOps C33_75
noncomputable def C33_76 : Code := cr C33_74
noncomputable def C33_77 : Code := cl C33_76
noncomputable def R33_30 : Array Oper := regOps C33_77
noncomputable def C33_78 : Code := cr C33_76
noncomputable def C33_79 : Code := cl C33_78
noncomputable def R33_31 : Array Oper := regOps C33_79
noncomputable def C33_80 : Code := cr C33_78
noncomputable def R33_27 : Array Oper := regOps C33_80
noncomputable def C33_81 : Code := cr C33_68
noncomputable def C33_82 : Code := cl C33_81
noncomputable def R33_32 : Array Oper := regOps C33_82
noncomputable def C33_83 : Code := cr C33_81
noncomputable def C33_84 : Code := cl C33_83
noncomputable def R33_33 : Array Oper := regOps C33_84
noncomputable def C33_85 : Code := cr C33_83
noncomputable def C33_86 : Code := cl C33_85
noncomputable def R33_34 : Array Oper := regOps C33_86
noncomputable def C33_87 : Code := cr C33_85
noncomputable def C33_88 : Code := cl C33_87
noncomputable def C33_89 : Code := cl C33_88
noncomputable def R33_35 : Array Oper := regOps C33_89
noncomputable def C33_90 : Code := cr C33_88
noncomputable def C33_91 : Code := cl C33_90
noncomputable def C33_92 : Code := cl C33_91
noncomputable def C33_93 : Code := cl C33_92
noncomputable def R33_36 : Array Oper := regOps C33_93
noncomputable def C33_94 : Code := cr C33_92
noncomputable def C33_95 : Code := cl C33_94
noncomputable def C33_96 : Code := cl C33_95
noncomputable def C33_97 : Code := cr C33_95
noncomputable def C33_98 : Code := cr C33_94
noncomputable def C33_99 : Code := cl C33_98
noncomputable def C33_100 : Code := cl C33_99
noncomputable def C33_101 : Code := cl C33_100
noncomputable def R33_37 : Array Oper := regOps C33_101
noncomputable def C33_102 : Code := cr C33_100
noncomputable def C33_103 : Code := cl C33_102
noncomputable def R33_38 : Array Oper := regOps C33_103
noncomputable def C33_104 : Code := cr C33_102
noncomputable def C33_105 : Code := cl C33_104
noncomputable def C33_106 : Code := cl C33_105
noncomputable def C33_107 : Code := cl C33_106
noncomputable def R33_40 : Array Oper := regOps C33_107
noncomputable def C33_108 : Code := cr C33_106
noncomputable def C33_109 : Code := cl C33_108
noncomputable def C33_110 : Code := cl C33_109
noncomputable def R33_41 : Array Oper := regOps C33_110
noncomputable def C33_111 : Code := cr C33_109
noncomputable def C33_112 : Code := cr C33_108
noncomputable def C33_113 : Code := cl C33_112
noncomputable def R33_42 : Array Oper := regOps C33_113
noncomputable def C33_114 : Code := cr C33_112
noncomputable def C33_115 : Code := cl C33_114
noncomputable def R33_43 : Array Oper := regOps C33_115
noncomputable def C33_116 : Code := cr C33_114
noncomputable def C33_117 : Code := cl C33_116
noncomputable def R33_44 : Array Oper := regOps C33_117
noncomputable def C33_118 : Code := cr C33_116
noncomputable def C33_119 : Code := cl C33_118
noncomputable def R33_45 : Array Oper := regOps C33_119
noncomputable def C33_120 : Code := cr C33_118
noncomputable def C33_121 : Code := cl C33_120
noncomputable def R33_39 : Array Oper := regOps C33_121
noncomputable def C33_122 : Code := cr C33_120
noncomputable def C33_123 : Code := cr C33_104
noncomputable def C33_124 : Code := cl C33_123
noncomputable def C33_125 : Code := cl C33_124
noncomputable def R33_46 : Array Oper := regOps C33_125
noncomputable def C33_126 : Code := cr C33_124
noncomputable def C33_127 : Code := cl C33_126
noncomputable def C33_128 : Code := cl C33_127
noncomputable def R33_47 : Array Oper := regOps C33_128
noncomputable def C33_129 : Code := cr C33_127
noncomputable def C33_130 : Code := cr C33_126
noncomputable def C33_131 : Code := cr C33_123
noncomputable def C33_132 : Code := cl C33_131
noncomputable def C33_133 : Code := cl C33_132
noncomputable def R33_48 : Array Oper := regOps C33_133
noncomputable def C33_134 : Code := cr C33_132
noncomputable def C33_135 : Code := cl C33_134
noncomputable def C33_136 : Code := cl C33_135
noncomputable def R33_49 : Array Oper := regOps C33_136
noncomputable def C33_137 : Code := cr C33_135
noncomputable def C33_138 : Code := cr C33_134
noncomputable def C33_139 : Code := cr C33_131
noncomputable def C33_140 : Code := cl C33_139
noncomputable def R33_50 : Array Oper := regOps C33_140
noncomputable def C33_141 : Code := cr C33_139
noncomputable def C33_142 : Code := cl C33_141
noncomputable def R33_51 : Array Oper := regOps C33_142
noncomputable def C33_143 : Code := cr C33_141
noncomputable def C33_144 : Code := cl C33_143
noncomputable def C33_145 : Code := cl C33_144
noncomputable def R33_52 : Array Oper := regOps C33_145
noncomputable def C33_146 : Code := cr C33_144
noncomputable def C33_147 : Code := cl C33_146
noncomputable def C33_148 : Code := cl C33_147
noncomputable def R33_53 : Array Oper := regOps C33_148
noncomputable def C33_149 : Code := cr C33_147
noncomputable def C33_150 : Code := cr C33_146
noncomputable def C33_151 : Code := cr C33_143
noncomputable def R33_54 : Array Oper := regOps C33_151
noncomputable def C33_152 : Code := cr C33_98
noncomputable def R33_55 : Array Oper := regOps C33_152
noncomputable def C33_153 : Code := cr C33_87
noncomputable def C33_154 : Code := cl C33_153
noncomputable def C33_155 : Code := cl C33_154
noncomputable def R33_56 : Array Oper := regOps C33_155
noncomputable def C33_156 : Code := cr C33_154
noncomputable def C33_157 : Code := cl C33_156
noncomputable def C33_158 : Code := cl C33_157
noncomputable def R33_57 : Array Oper := regOps C33_158
noncomputable def C33_159 : Code := cr C33_157
noncomputable def C33_160 : Code := cr C33_156
noncomputable def C33_161 : Code := cr C33_153
noncomputable def C33_162 : Code := cl C33_161
noncomputable def R33_58 : Array Oper := regOps C33_162
noncomputable def C33_163 : Code := cr C33_161
theorem R33_0_N : dstsOk 172 R33_0 = true := by decide +kernel
theorem E33_1 : C33_1 = .region 0 R33_0 false := rfl
theorem R33_1_N : dstsOk 172 R33_1 = true := by decide +kernel
theorem E33_4 : C33_4 = .region 1 R33_1 false := rfl
theorem R33_2_N : dstsOk 172 R33_2 = true := by decide +kernel
theorem E33_7 : C33_7 = .region 2 R33_2 false := rfl
theorem E33_8 : C33_8 = .ret := rfl
theorem E33_6 : C33_6 = .seq C33_7 C33_8 := rfl
theorem E33_9 : C33_9 = .skip := rfl
theorem E33_5 : C33_5 = .cond (.tmp 19) C33_6 C33_9 := rfl
theorem E33_3 : C33_3 = .seq C33_4 C33_5 := rfl
theorem R33_3_N : dstsOk 172 R33_3 = true := by decide +kernel
theorem E33_11 : C33_11 = .region 3 R33_3 false := rfl
theorem R33_4_N : dstsOk 172 R33_4 = true := by decide +kernel
theorem E33_13 : C33_13 = .region 4 R33_4 false := rfl
theorem R33_6_N : dstsOk 172 R33_6 = true := by decide +kernel
theorem E33_17 : C33_17 = .region 6 R33_6 false := rfl
theorem E33_19 : C33_19 = .skip := rfl
theorem R33_7_N : dstsOk 172 R33_7 = true := by decide +kernel
theorem E33_21 : C33_21 = .region 7 R33_7 false := rfl
theorem R33_8_N : dstsOk 172 R33_8 = true := by decide +kernel
theorem E33_24 : C33_24 = .region 8 R33_8 false := rfl
theorem R33_9_N : dstsOk 172 R33_9 = true := by decide +kernel
theorem E33_26 : C33_26 = .region 9 R33_9 false := rfl
theorem R33_12_N : dstsOk 172 R33_12 = true := by decide +kernel
theorem E33_30 : C33_30 = .region 12 R33_12 false := rfl
theorem R33_13_N : dstsOk 172 R33_13 = true := by decide +kernel
theorem E33_33 : C33_33 = .region 13 R33_13 false := rfl
theorem R33_14_N : dstsOk 172 R33_14 = true := by decide +kernel
theorem E33_34 : C33_34 = .region 14 R33_14 false := rfl
theorem E33_32 : C33_32 = .seq C33_33 C33_34 := rfl
theorem R33_15_N : dstsOk 172 R33_15 = true := by decide +kernel
theorem E33_36 : C33_36 = .region 15 R33_15 false := rfl
theorem R33_16_N : dstsOk 172 R33_16 = true := by decide +kernel
theorem E33_39 : C33_39 = .region 16 R33_16 false := rfl
theorem R33_17_N : dstsOk 172 R33_17 = true := by decide +kernel
theorem E33_40 : C33_40 = .region 17 R33_17 false := rfl
theorem E33_38 : C33_38 = .seq C33_39 C33_40 := rfl
theorem R33_18_N : dstsOk 172 R33_18 = true := by decide +kernel
theorem E33_42 : C33_42 = .region 18 R33_18 false := rfl
theorem R33_19_N : dstsOk 172 R33_19 = true := by decide +kernel
theorem E33_45 : C33_45 = .region 19 R33_19 false := rfl
theorem R33_20_N : dstsOk 172 R33_20 = true := by decide +kernel
theorem E33_46 : C33_46 = .region 20 R33_20 false := rfl
theorem E33_44 : C33_44 = .seq C33_45 C33_46 := rfl
theorem R33_10_N : dstsOk 172 R33_10 = true := by decide +kernel
theorem E33_48 : C33_48 = .region 10 R33_10 false := rfl
theorem R33_11_N : dstsOk 172 R33_11 = true := by decide +kernel
theorem E33_49 : C33_49 = .region 11 R33_11 false := rfl
theorem E33_47 : C33_47 = .seq C33_48 C33_49 := rfl
theorem E33_43 : C33_43 = .cond (.tmp 64) C33_44 C33_47 := rfl
theorem E33_41 : C33_41 = .seq C33_42 C33_43 := rfl
theorem E33_37 : C33_37 = .cond (.tmp 52) C33_38 C33_41 := rfl
theorem E33_35 : C33_35 = .seq C33_36 C33_37 := rfl
theorem E33_31 : C33_31 = .cond (.tmp 40) C33_32 C33_35 := rfl
theorem E33_29 : C33_29 = .seq C33_30 C33_31 := rfl
theorem E33_28 : C33_28 = .block 1 C33_29 := rfl
theorem E33_50 : C33_50 = .skip := rfl
theorem E33_27 : C33_27 = .cond (.tmp 37) C33_28 C33_50 := rfl
theorem E33_25 : C33_25 = .seq C33_26 C33_27 := rfl
theorem E33_23 : C33_23 = .seq C33_24 C33_25 := rfl
theorem R33_5_N : dstsOk 172 R33_5 = true := by decide +kernel
theorem E33_52 : C33_52 = .region 5 R33_5 false := rfl
theorem E33_53 : C33_53 = .ret := rfl
theorem E33_51 : C33_51 = .seq C33_52 C33_53 := rfl
theorem E33_22 : C33_22 = .cond (.tmp 32) C33_23 C33_51 := rfl
theorem E33_20 : C33_20 = .seq C33_21 C33_22 := rfl
theorem E33_18 : C33_18 = .cond (.tmp 25) C33_19 C33_20 := rfl
theorem E33_16 : C33_16 = .seq C33_17 C33_18 := rfl
theorem E33_15 : C33_15 = .block 0 C33_16 := rfl
theorem R33_21_N : dstsOk 172 R33_21 = true := by decide +kernel
theorem E33_56 : C33_56 = .region 21 R33_21 false := rfl
theorem R33_22_N : dstsOk 172 R33_22 = true := by decide +kernel
theorem E33_58 : C33_58 = .region 22 R33_22 false := rfl
theorem R33_23_N : dstsOk 172 R33_23 = true := by decide +kernel
theorem E33_60 : C33_60 = .region 23 R33_23 false := rfl
theorem R33_24_N : dstsOk 172 R33_24 = true := by decide +kernel
theorem E33_63 : C33_63 = .region 24 R33_24 false := rfl
theorem E33_64 : C33_64 = .ret := rfl
theorem E33_62 : C33_62 = .seq C33_63 C33_64 := rfl
theorem E33_65 : C33_65 = .skip := rfl
theorem E33_61 : C33_61 = .cond (.tmp 83) C33_62 C33_65 := rfl
theorem E33_59 : C33_59 = .seq C33_60 C33_61 := rfl
theorem E33_57 : C33_57 = .cond (.tmp 77) C33_58 C33_59 := rfl
theorem E33_55 : C33_55 = .seq C33_56 C33_57 := rfl
theorem R33_25_N : dstsOk 172 R33_25 = true := by decide +kernel
theorem E33_67 : C33_67 = .region 25 R33_25 false := rfl
theorem R33_26_N : dstsOk 172 R33_26 = true := by decide +kernel
theorem E33_70 : C33_70 = .region 26 R33_26 false := rfl
theorem R33_28_N : dstsOk 172 R33_28 = true := by decide +kernel
theorem E33_73 : C33_73 = .region 28 R33_28 false := rfl
theorem R33_29_N : dstsOk 172 R33_29 = true := by decide +kernel
theorem E33_75 : C33_75 = .region 29 R33_29 false := rfl
theorem R33_30_N : dstsOk 172 R33_30 = true := by decide +kernel
theorem E33_77 : C33_77 = .region 30 R33_30 false := rfl
theorem R33_31_N : dstsOk 172 R33_31 = true := by decide +kernel
theorem E33_79 : C33_79 = .region 31 R33_31 false := rfl
theorem R33_27_N : dstsOk 172 R33_27 = true := by decide +kernel
theorem E33_80 : C33_80 = .region 27 R33_27 false := rfl
theorem E33_78 : C33_78 = .cond (.tmp 92) C33_79 C33_80 := rfl
theorem E33_76 : C33_76 = .seq C33_77 C33_78 := rfl
theorem E33_74 : C33_74 = .cond (.tmp 90) C33_75 C33_76 := rfl
theorem E33_72 : C33_72 = .seq C33_73 C33_74 := rfl
theorem E33_71 : C33_71 = .block 2 C33_72 := rfl
theorem E33_69 : C33_69 = .seq C33_70 C33_71 := rfl
theorem R33_32_N : dstsOk 172 R33_32 = true := by decide +kernel
theorem E33_82 : C33_82 = .region 32 R33_32 false := rfl
theorem R33_33_N : dstsOk 172 R33_33 = true := by decide +kernel
theorem E33_84 : C33_84 = .region 33 R33_33 false := rfl
theorem R33_34_N : dstsOk 172 R33_34 = true := by decide +kernel
theorem E33_86 : C33_86 = .region 34 R33_34 false := rfl
theorem R33_35_N : dstsOk 172 R33_35 = true := by decide +kernel
theorem E33_89 : C33_89 = .region 35 R33_35 false := rfl
theorem R33_36_N : dstsOk 172 R33_36 = true := by decide +kernel
theorem E33_93 : C33_93 = .region 36 R33_36 false := rfl
theorem E33_96 : C33_96 = .skip := rfl
theorem E33_97 : C33_97 = .exit 3 := rfl
theorem E33_95 : C33_95 = .cond (.tmp 102) C33_96 C33_97 := rfl
theorem R33_37_N : dstsOk 172 R33_37 = true := by decide +kernel
theorem E33_101 : C33_101 = .region 37 R33_37 false := rfl
theorem R33_38_N : dstsOk 172 R33_38 = true := by decide +kernel
theorem E33_103 : C33_103 = .region 38 R33_38 false := rfl
theorem R33_40_N : dstsOk 172 R33_40 = true := by decide +kernel
theorem E33_107 : C33_107 = .region 40 R33_40 false := rfl
theorem R33_41_N : dstsOk 172 R33_41 = true := by decide +kernel
theorem E33_110 : C33_110 = .region 41 R33_41 false := rfl
theorem E33_111 : C33_111 = .exit 4 := rfl
theorem E33_109 : C33_109 = .seq C33_110 C33_111 := rfl
theorem R33_42_N : dstsOk 172 R33_42 = true := by decide +kernel
theorem E33_113 : C33_113 = .region 42 R33_42 false := rfl
theorem R33_43_N : dstsOk 172 R33_43 = true := by decide +kernel
theorem E33_115 : C33_115 = .region 43 R33_43 false := rfl
theorem R33_44_N : dstsOk 172 R33_44 = true := by decide +kernel
theorem E33_117 : C33_117 = .region 44 R33_44 false := rfl
theorem R33_45_N : dstsOk 172 R33_45 = true := by decide +kernel
theorem E33_119 : C33_119 = .region 45 R33_45 false := rfl
theorem R33_39_N : dstsOk 172 R33_39 = true := by decide +kernel
theorem E33_121 : C33_121 = .region 39 R33_39 false := rfl
theorem E33_122 : C33_122 = .ret := rfl
theorem E33_120 : C33_120 = .seq C33_121 C33_122 := rfl
theorem E33_118 : C33_118 = .cond (.tmp 121) C33_119 C33_120 := rfl
theorem E33_116 : C33_116 = .seq C33_117 C33_118 := rfl
theorem E33_114 : C33_114 = .cond (.tmp 112) C33_115 C33_116 := rfl
theorem E33_112 : C33_112 = .seq C33_113 C33_114 := rfl
theorem E33_108 : C33_108 = .cond (.tmp 106) C33_109 C33_112 := rfl
theorem E33_106 : C33_106 = .seq C33_107 C33_108 := rfl
theorem E33_105 : C33_105 = .block 5 C33_106 := rfl
theorem R33_46_N : dstsOk 172 R33_46 = true := by decide +kernel
theorem E33_125 : C33_125 = .region 46 R33_46 false := rfl
theorem R33_47_N : dstsOk 172 R33_47 = true := by decide +kernel
theorem E33_128 : C33_128 = .region 47 R33_47 false := rfl
theorem E33_129 : C33_129 = .ret := rfl
theorem E33_127 : C33_127 = .seq C33_128 C33_129 := rfl
theorem E33_130 : C33_130 = .skip := rfl
theorem E33_126 : C33_126 = .cond (.tmp 137) C33_127 C33_130 := rfl
theorem E33_124 : C33_124 = .seq C33_125 C33_126 := rfl
theorem R33_48_N : dstsOk 172 R33_48 = true := by decide +kernel
theorem E33_133 : C33_133 = .region 48 R33_48 false := rfl
theorem R33_49_N : dstsOk 172 R33_49 = true := by decide +kernel
theorem E33_136 : C33_136 = .region 49 R33_49 false := rfl
theorem E33_137 : C33_137 = .ret := rfl
theorem E33_135 : C33_135 = .seq C33_136 C33_137 := rfl
theorem E33_138 : C33_138 = .skip := rfl
theorem E33_134 : C33_134 = .cond (.tmp 141) C33_135 C33_138 := rfl
theorem E33_132 : C33_132 = .seq C33_133 C33_134 := rfl
theorem R33_50_N : dstsOk 172 R33_50 = true := by decide +kernel
theorem E33_140 : C33_140 = .region 50 R33_50 false := rfl
theorem R33_51_N : dstsOk 172 R33_51 = true := by decide +kernel
theorem E33_142 : C33_142 = .region 51 R33_51 false := rfl
theorem R33_52_N : dstsOk 172 R33_52 = true := by decide +kernel
theorem E33_145 : C33_145 = .region 52 R33_52 false := rfl
theorem R33_53_N : dstsOk 172 R33_53 = true := by decide +kernel
theorem E33_148 : C33_148 = .region 53 R33_53 false := rfl
theorem E33_149 : C33_149 = .ret := rfl
theorem E33_147 : C33_147 = .seq C33_148 C33_149 := rfl
theorem E33_150 : C33_150 = .skip := rfl
theorem E33_146 : C33_146 = .cond (.tmp 159) C33_147 C33_150 := rfl
theorem E33_144 : C33_144 = .seq C33_145 C33_146 := rfl
theorem R33_54_N : dstsOk 172 R33_54 = true := by decide +kernel
theorem E33_151 : C33_151 = .region 54 R33_54 false := rfl
theorem E33_143 : C33_143 = .seq C33_144 C33_151 := rfl
theorem E33_141 : C33_141 = .seq C33_142 C33_143 := rfl
theorem E33_139 : C33_139 = .seq C33_140 C33_141 := rfl
theorem E33_131 : C33_131 = .seq C33_132 C33_139 := rfl
theorem E33_123 : C33_123 = .seq C33_124 C33_131 := rfl
theorem E33_104 : C33_104 = .seq C33_105 C33_123 := rfl
theorem E33_102 : C33_102 = .seq C33_103 C33_104 := rfl
theorem E33_100 : C33_100 = .seq C33_101 C33_102 := rfl
theorem E33_99 : C33_99 = .block 4 C33_100 := rfl
theorem R33_55_N : dstsOk 172 R33_55 = true := by decide +kernel
theorem E33_152 : C33_152 = .region 55 R33_55 false := rfl
theorem E33_98 : C33_98 = .seq C33_99 C33_152 := rfl
theorem E33_94 : C33_94 = .seq C33_95 C33_98 := rfl
theorem E33_92 : C33_92 = .seq C33_93 C33_94 := rfl
theorem E33_91 : C33_91 = .loop C33_92 := rfl
theorem E33_90 : C33_90 = .block 3 C33_91 := rfl
theorem E33_88 : C33_88 = .seq C33_89 C33_90 := rfl
theorem R33_56_N : dstsOk 172 R33_56 = true := by decide +kernel
theorem E33_155 : C33_155 = .region 56 R33_56 false := rfl
theorem R33_57_N : dstsOk 172 R33_57 = true := by decide +kernel
theorem E33_158 : C33_158 = .region 57 R33_57 false := rfl
theorem E33_159 : C33_159 = .ret := rfl
theorem E33_157 : C33_157 = .seq C33_158 C33_159 := rfl
theorem E33_160 : C33_160 = .skip := rfl
theorem E33_156 : C33_156 = .cond (.tmp 169) C33_157 C33_160 := rfl
theorem E33_154 : C33_154 = .seq C33_155 C33_156 := rfl
theorem R33_58_N : dstsOk 172 R33_58 = true := by decide +kernel
theorem E33_162 : C33_162 = .region 58 R33_58 false := rfl
theorem E33_163 : C33_163 = .ret := rfl
theorem E33_161 : C33_161 = .seq C33_162 C33_163 := rfl
theorem E33_153 : C33_153 = .seq C33_154 C33_161 := rfl
theorem E33_87 : C33_87 = .seq C33_88 C33_153 := rfl
theorem E33_85 : C33_85 = .seq C33_86 C33_87 := rfl
theorem E33_83 : C33_83 = .seq C33_84 C33_85 := rfl
theorem E33_81 : C33_81 = .seq C33_82 C33_83 := rfl
theorem E33_68 : C33_68 = .seq C33_69 C33_81 := rfl
theorem E33_66 : C33_66 = .seq C33_67 C33_68 := rfl
theorem E33_54 : C33_54 = .seq C33_55 C33_66 := rfl
theorem E33_14 : C33_14 = .seq C33_15 C33_54 := rfl
theorem E33_12 : C33_12 = .seq C33_13 C33_14 := rfl
theorem E33_10 : C33_10 = .seq C33_11 C33_12 := rfl
theorem E33_2 : C33_2 = .seq C33_3 C33_10 := rfl
theorem E33_0 : C33_0 = .seq C33_1 C33_2 := rfl
def S33_12 (Q : (Int × Value) → AW → Prop) (E : List PanicEntry → AW → Prop) (nx8 : Int → Bool → ByteArray → Int → Int → Bool → Int → Value → Int → Int → AW → Prop) (base_1 : Int) (base0_8 : Bool) (s0_9 : ByteArray) (cutoff_10 : Int) (maxVal_11 : Int) (underscores_12 : Bool) (n_13 : Int) (t_99 : Value) (t_100 : Int) (t_101 : Int) (aw : AW) : Prop :=
  nx8 base_1 base0_8 s0_9 cutoff_10 maxVal_11 underscores_12 n_13 t_99 t_100 (IntKind.i64.wrap (t_101 + 1)) aw
def S33_11 (Q : (Int × Value) → AW → Prop) (E : List PanicEntry → AW → Prop) (nx8 : Int → Bool → ByteArray → Int → Int → Bool → Int → Value → Int → Int → AW → Prop) (base_1 : Int) (base0_8 : Bool) (s0_9 : ByteArray) (cutoff_10 : Int) (maxVal_11 : Int) (underscores_12 : Bool) (n_13 : Int) (d_16 : Int) (t_99 : Value) (t_100 : Int) (t_101 : Int) (aw : AW) : Prop :=
  cnd (decide ((IntKind.u8.wrap base_1) ≤ d_16)) (Q (0, (.iface 58 (.int .i64 2))) aw) (cnd (decide (cutoff_10 ≤ n_13)) (Q (maxVal_11, (.iface 58 (.int .i64 1))) aw) (cnd (decide ((IntKind.u64.wrap ((IntKind.u64.wrap (n_13 * (IntKind.u64.wrap base_1))) + (IntKind.u64.wrap d_16))) < (IntKind.u64.wrap (n_13 * (IntKind.u64.wrap base_1))))) (Q (maxVal_11, (.iface 58 (.int .i64 1))) aw) (cnd (decide (maxVal_11 < (IntKind.u64.wrap ((IntKind.u64.wrap (n_13 * (IntKind.u64.wrap base_1))) + (IntKind.u64.wrap d_16))))) (Q (maxVal_11, (.iface 58 (.int .i64 1))) aw) (S33_12 Q E nx8 base_1 base0_8 s0_9 cutoff_10 maxVal_11 underscores_12 (IntKind.u64.wrap ((IntKind.u64.wrap (n_13 * (IntKind.u64.wrap base_1))) + (IntKind.u64.wrap d_16))) t_99 t_100 t_101 aw))))
def S33_10 (Q : (Int × Value) → AW → Prop) (E : List PanicEntry → AW → Prop) (nx8 : Int → Bool → ByteArray → Int → Int → Bool → Int → Value → Int → Int → AW → Prop) (base_1 : Int) (base0_8 : Bool) (s0_9 : ByteArray) (cutoff_10 : Int) (maxVal_11 : Int) (underscores_12 : Bool) (n_13 : Int) (c_15 : Int) (t_99 : Value) (t_100 : Int) (t_101 : Int) (t_112 : Bool) (aw : AW) : Prop :=
  cnd t_112 (S33_11 Q E nx8 base_1 base0_8 s0_9 cutoff_10 maxVal_11 underscores_12 n_13 (IntKind.u8.wrap (c_15 - 48)) t_99 t_100 t_101 aw) (CallP prog 39 [.int .u8 c_15] aw sh39 (fun r7 aw8 =>
  cnd (decide (97 ≤ r7)) (CallP prog 39 [.int .u8 c_15] aw8 sh39 (fun r10 aw11 =>
  cnd (decide (r10 ≤ 122)) (CallP prog 39 [.int .u8 c_15] aw11 sh39 (fun r13 aw14 =>
  S33_11 Q E nx8 base_1 base0_8 s0_9 cutoff_10 maxVal_11 underscores_12 n_13 (IntKind.u8.wrap ((IntKind.u8.wrap (r13 - 97)) + 10)) t_99 t_100 t_101 aw14) E) (Q (0, (.iface 58 (.int .i64 2))) aw11)) E) (Q (0, (.iface 58 (.int .i64 2))) aw8)) E)
def S33_9 (Q : (Int × Value) → AW → Prop) (E : List PanicEntry → AW → Prop) (nx8 : Int → Bool → ByteArray → Int → Int → Bool → Int → Value → Int → Int → AW → Prop) (base_1 : Int) (base0_8 : Bool) (s0_9 : ByteArray) (cutoff_10 : Int) (maxVal_11 : Int) (underscores_12 : Bool) (n_13 : Int) (c_15 : Int) (t_99 : Value) (t_100 : Int) (t_101 : Int) (t_106 : Bool) (aw : AW) : Prop :=
  cnd t_106 (S33_12 Q E nx8 base_1 base0_8 s0_9 cutoff_10 maxVal_11 true n_13 t_99 t_100 t_101 aw) (cnd (decide (48 ≤ c_15)) (S33_10 Q E nx8 base_1 base0_8 s0_9 cutoff_10 maxVal_11 underscores_12 n_13 c_15 t_99 t_100 t_101 (decide (c_15 ≤ 57)) aw) (S33_10 Q E nx8 base_1 base0_8 s0_9 cutoff_10 maxVal_11 underscores_12 n_13 c_15 t_99 t_100 t_101 false aw))
def S33_8s (Q : (Int × Value) → AW → Prop) (E : List PanicEntry → AW → Prop)  (nx8 : Int → Bool → ByteArray → Int → Int → Bool → Int → Value → Int → Int → AW → Prop) (base_1 : Int) (base0_8 : Bool) (s0_9 : ByteArray) (cutoff_10 : Int) (maxVal_11 : Int) (underscores_12 : Bool) (n_13 : Int) (t_99 : Value) (t_100 : Int) (t_101 : Int) (aw : AW) : Prop :=
  cnd (decide (t_101 < t_100)) (ixS t_99 t_101 1 fun p19 =>
  ldI .u8 aw p19 fun x31 =>
  cnd (decide (x31 = 95)) (S33_9 Q E nx8 base_1 base0_8 s0_9 cutoff_10 maxVal_11 underscores_12 n_13 x31 t_99 t_100 t_101 base0_8 aw) (S33_9 Q E nx8 base_1 base0_8 s0_9 cutoff_10 maxVal_11 underscores_12 n_13 x31 t_99 t_100 t_101 false aw)) (cnd underscores_12 (CallP prog 40 [.string s0_9] aw sh40 (fun r35 aw36 =>
  cnd (!r35) (Q (0, (.iface 58 (.int .i64 2))) aw36) (Q (n_13, (.nilIface )) aw36)) E) (Q (n_13, (.nilIface )) aw))
def S33_8 (Q : (Int × Value) → AW → Prop) (E : List PanicEntry → AW → Prop)  : Nat → Int → Bool → ByteArray → Int → Int → Bool → Int → Value → Int → Int → AW → Prop
  | 0 => fun _ _ _ _ _ _ _ _ _ _ _ => False
  | n + 1 => S33_8s Q E  (S33_8 Q E  n)
def S33_7 (Q : (Int × Value) → AW → Prop) (E : List PanicEntry → AW → Prop)  (s_0 : ByteArray) (base_1 : Int) (bitSize_2 : Int) (base0_8 : Bool) (s0_9 : ByteArray) (cutoff_10 : Int) (aw : AW) : Prop :=
  0 ≤ (IntKind.u64.wrap bitSize_2) ∧ toB aw s_0 5 fun p40 aw41 =>
  slen p40 fun n44 =>
  ∃ n, S33_8 Q E  n base_1 base0_8 s0_9 cutoff_10 (IntKind.u64.wrap ((IntKind.u64.wrap (1 * 2 ^ (min (IntKind.u64.wrap bitSize_2).toNat IntKind.u64.bits))) - 1)) false 0 p40 n44 0 aw41
def S33_6 (Q : (Int × Value) → AW → Prop) (E : List PanicEntry → AW → Prop)  (s_0 : ByteArray) (base_1 : Int) (bitSize_2 : Int) (base0_8 : Bool) (s0_9 : ByteArray) (aw : AW) : Prop :=
  cnd (decide (base_1 = 10)) (S33_7 Q E  s_0 base_1 bitSize_2 base0_8 s0_9 1844674407370955162 aw) (cnd (decide (base_1 = 16)) (S33_7 Q E  s_0 base_1 bitSize_2 base0_8 s0_9 1152921504606846976 aw) ((IntKind.u64.wrap base_1) ≠ 0 ∧ S33_7 Q E  s_0 base_1 bitSize_2 base0_8 s0_9 (IntKind.u64.wrap ((IntKind.u64.wrap (Int.tdiv 18446744073709551615 (IntKind.u64.wrap base_1))) + 1)) aw))
def S33_5 (Q : (Int × Value) → AW → Prop) (E : List PanicEntry → AW → Prop)  (s_0 : ByteArray) (base_1 : Int) (bitSize_2 : Int) (base0_8 : Bool) (s0_9 : ByteArray) (aw : AW) : Prop :=
  cnd (decide (bitSize_2 = 0)) (S33_6 Q E  s_0 base_1 64 base0_8 s0_9 aw) (cnd (decide (bitSize_2 < 0)) (Q (0, (.iface 58 (.int .i64 4))) aw) (cnd (decide (64 < bitSize_2)) (Q (0, (.iface 58 (.int .i64 4))) aw) (S33_6 Q E  s_0 base_1 bitSize_2 base0_8 s0_9 aw)))
def S33_4 (Q : (Int × Value) → AW → Prop) (E : List PanicEntry → AW → Prop)  (s_0 : ByteArray) (base_1 : Int) (bitSize_2 : Int) (base0_8 : Bool) (s0_9 : ByteArray) (aw : AW) : Prop :=
  S33_5 Q E  s_0 base_1 bitSize_2 base0_8 s0_9 aw
def S33_3 (Q : (Int × Value) → AW → Prop) (E : List PanicEntry → AW → Prop)  (s_0 : ByteArray) (bitSize_2 : Int) (base0_8 : Bool) (s0_9 : ByteArray) (t_52 : Bool) (aw : AW) : Prop :=
  cnd t_52 (cutS s_0 2 s_0.size fun s58 =>
  S33_4 Q E  s58 8 bitSize_2 base0_8 s0_9 aw) (cnd (decide (3 ≤ (s_0.size : Int))) (chr s_0 1 fun c64 =>
  CallP prog 39 [.int .u8 c64] aw sh39 (fun r68 aw69 =>
  cnd (decide (r68 = 120)) (cutS s_0 2 s_0.size fun s71 =>
  S33_4 Q E  s71 16 bitSize_2 base0_8 s0_9 aw69) (cutS s_0 1 s_0.size fun s76 =>
  S33_4 Q E  s76 8 bitSize_2 base0_8 s0_9 aw69)) E) (cutS s_0 1 s_0.size fun s82 =>
  S33_4 Q E  s82 8 bitSize_2 base0_8 s0_9 aw))
def S33_2 (Q : (Int × Value) → AW → Prop) (E : List PanicEntry → AW → Prop)  (s_0 : ByteArray) (bitSize_2 : Int) (base0_8 : Bool) (s0_9 : ByteArray) (t_40 : Bool) (aw : AW) : Prop :=
  cnd t_40 (cutS s_0 2 s_0.size fun s88 =>
  S33_4 Q E  s88 2 bitSize_2 base0_8 s0_9 aw) (cnd (decide (3 ≤ (s_0.size : Int))) (chr s_0 1 fun c94 =>
  CallP prog 39 [.int .u8 c94] aw sh39 (fun r98 aw99 =>
  S33_3 Q E  s_0 bitSize_2 base0_8 s0_9 (decide (r98 = 111)) aw99) E) (S33_3 Q E  s_0 bitSize_2 base0_8 s0_9 false aw))
def S33_1 (Q : (Int × Value) → AW → Prop) (E : List PanicEntry → AW → Prop)  (s_0 : ByteArray) (base_1 : Int) (bitSize_2 : Int) (base0_8 : Bool) (s0_9 : ByteArray) (t_25 : Bool) (aw : AW) : Prop :=
  cnd t_25 (S33_5 Q E  s_0 base_1 bitSize_2 base0_8 s0_9 aw) (cnd (decide (base_1 = 0)) (chr s_0 0 fun c102 =>
  cnd (decide (c102 = 48)) (cnd (decide (3 ≤ (s_0.size : Int))) (chr s_0 1 fun c108 =>
  CallP prog 39 [.int .u8 c108] aw sh39 (fun r112 aw113 =>
  S33_2 Q E  s_0 bitSize_2 base0_8 s0_9 (decide (r112 = 98)) aw113) E) (S33_2 Q E  s_0 bitSize_2 base0_8 s0_9 false aw)) (S33_5 Q E  s_0 10 bitSize_2 base0_8 s0_9 aw)) (Q (0, (.iface 58 (.int .i64 3))) aw))
def S33_0 (Q : (Int × Value) → AW → Prop) (E : List PanicEntry → AW → Prop)  (s_0 : ByteArray) (base_1 : Int) (bitSize_2 : Int) (aw : AW) : Prop :=
  cnd (decide (s_0 = (⟨#[]⟩ : ByteArray))) (Q (0, (.iface 58 (.int .i64 2))) aw) (cnd (decide (2 ≤ base_1)) (S33_1 Q E  s_0 base_1 bitSize_2 (decide (base_1 = 0)) s_0 (decide (base_1 ≤ 36)) aw) (S33_1 Q E  s_0 base_1 bitSize_2 (decide (base_1 = 0)) s_0 false aw))
set_option maxHeartbeats 4000000 in
set_option maxRecDepth 100000 in
theorem S33_12_ok (Q : (Int × Value) → AW → Prop) (E : List PanicEntry → AW → Prop) (nx8 : Int → Bool → ByteArray → Int → Int → Bool → Int → Value → Int → Int → AW → Prop) (L8 : ∀ (ρ : Env) (base_1 : Int) (base0_8 : Bool) (s0_9 : ByteArray) (cutoff_10 : Int) (maxVal_11 : Int) (underscores_12 : Bool) (n_13 : Int) (t_99 : Value) (t_100 : Int) (t_101 : Int) (aw : AW) (h1 : ρ 1 = .int .i64 base_1) (h8 : ρ 8 = .bool base0_8) (h9 : ρ 9 = .string s0_9) (h10 : ρ 10 = .int .u64 cutoff_10) (h11 : ρ 11 = .int .u64 maxVal_11) (h12 : ρ 12 = .bool underscores_12) (h13 : ρ 13 = .int .u64 n_13) (h99 : ρ 99 = t_99) (h100 : ρ 100 = .int .i64 t_100) (h101 : ρ 101 = .int .i64 t_101), nx8 base_1 base0_8 s0_9 cutoff_10 maxVal_11 underscores_12 n_13 t_99 t_100 t_101 aw → AGo prog 172 [.code C33_92, .inLoop C33_92, .inBlock 3, .code C33_153] ρ [] aw (RR prog f33 172 sh33 Q E)) (ρ : Env) (base_1 : Int) (base0_8 : Bool) (s0_9 : ByteArray) (cutoff_10 : Int) (maxVal_11 : Int) (underscores_12 : Bool) (n_13 : Int) (t_99 : Value) (t_100 : Int) (t_101 : Int) (aw : AW) (h1 : ρ 1 = .int .i64 base_1) (h8 : ρ 8 = .bool base0_8) (h9 : ρ 9 = .string s0_9) (h10 : ρ 10 = .int .u64 cutoff_10) (h11 : ρ 11 = .int .u64 maxVal_11) (h12 : ρ 12 = .bool underscores_12) (h13 : ρ 13 = .int .u64 n_13) (h99 : ρ 99 = t_99) (h100 : ρ 100 = .int .i64 t_100) (h101 : ρ 101 = .int .i64 t_101) (H : S33_12 Q E nx8 base_1 base0_8 s0_9 cutoff_10 maxVal_11 underscores_12 n_13 t_99 t_100 t_101 aw) :
    AGo prog 172 [.code C33_152, .inLoop C33_92, .inBlock 3, .code C33_153] ρ [] aw (RR prog f33 172 sh33 Q E) := by
  unfold S33_12 at H
  refine ago_regE E33_152 (l := [0, 1]) rfl ?_
  refine lk (dt := some 163) R33_55_N rfl rfl rfl (opv_add rfl rfl rfl h101 rfl) ?_
  refine lk (dt := some 101) R33_55_N rfl rfl rfl (opv_move rfl rfl rfl) ?_
  refine aops_nil ?_
  refine ago_inLoop ?_
  exact L8 _ base_1 base0_8 s0_9 cutoff_10 maxVal_11 underscores_12 n_13 t_99 t_100 (IntKind.i64.wrap (t_101 + 1)) aw h1 h8 h9 h10 h11 h12 h13 h99 h100 rfl H
set_option maxHeartbeats 4000000 in
set_option maxRecDepth 100000 in
theorem S33_11_ok (Q : (Int × Value) → AW → Prop) (E : List PanicEntry → AW → Prop) (nx8 : Int → Bool → ByteArray → Int → Int → Bool → Int → Value → Int → Int → AW → Prop) (L8 : ∀ (ρ : Env) (base_1 : Int) (base0_8 : Bool) (s0_9 : ByteArray) (cutoff_10 : Int) (maxVal_11 : Int) (underscores_12 : Bool) (n_13 : Int) (t_99 : Value) (t_100 : Int) (t_101 : Int) (aw : AW) (h1 : ρ 1 = .int .i64 base_1) (h8 : ρ 8 = .bool base0_8) (h9 : ρ 9 = .string s0_9) (h10 : ρ 10 = .int .u64 cutoff_10) (h11 : ρ 11 = .int .u64 maxVal_11) (h12 : ρ 12 = .bool underscores_12) (h13 : ρ 13 = .int .u64 n_13) (h99 : ρ 99 = t_99) (h100 : ρ 100 = .int .i64 t_100) (h101 : ρ 101 = .int .i64 t_101), nx8 base_1 base0_8 s0_9 cutoff_10 maxVal_11 underscores_12 n_13 t_99 t_100 t_101 aw → AGo prog 172 [.code C33_92, .inLoop C33_92, .inBlock 3, .code C33_153] ρ [] aw (RR prog f33 172 sh33 Q E)) (ρ : Env) (base_1 : Int) (base0_8 : Bool) (s0_9 : ByteArray) (cutoff_10 : Int) (maxVal_11 : Int) (underscores_12 : Bool) (n_13 : Int) (d_16 : Int) (t_99 : Value) (t_100 : Int) (t_101 : Int) (aw : AW) (h1 : ρ 1 = .int .i64 base_1) (h8 : ρ 8 = .bool base0_8) (h9 : ρ 9 = .string s0_9) (h10 : ρ 10 = .int .u64 cutoff_10) (h11 : ρ 11 = .int .u64 maxVal_11) (h12 : ρ 12 = .bool underscores_12) (h13 : ρ 13 = .int .u64 n_13) (h16 : ρ 16 = .int .u8 d_16) (h99 : ρ 99 = t_99) (h100 : ρ 100 = .int .i64 t_100) (h101 : ρ 101 = .int .i64 t_101) (H : S33_11 Q E nx8 base_1 base0_8 s0_9 cutoff_10 maxVal_11 underscores_12 n_13 d_16 t_99 t_100 t_101 aw) :
    AGo prog 172 [.inBlock 5, .code C33_123, .inBlock 4, .code C33_152, .inLoop C33_92, .inBlock 3, .code C33_153] ρ [] aw (RR prog f33 172 sh33 Q E) := by
  unfold S33_11 at H
  refine ago_inBlock ?_
  refine ago_seqE E33_123 ?_
  refine ago_seqE E33_124 ?_
  refine ago_regE E33_125 (l := [0, 1, 2, 3]) rfl ?_
  refine lk (dt := some 134) R33_46_N rfl rfl rfl (opv_move rfl rfl h16) ?_
  refine lk (dt := some 135) R33_46_N rfl rfl rfl (opv_move rfl rfl h1) ?_
  refine lk (dt := some 136) R33_46_N rfl rfl rfl (opv_conv rfl rfl underlying3 underlying5 rfl) ?_
  refine lk (dt := some 137) R33_46_N rfl rfl rfl (opv_ge rfl rfl rfl rfl rfl) ?_
  refine aops_nil ?_
  refine ago_condE  E33_126 rfl rfl (fun hb1 => ?_) (fun hb1 => ?_)
  · replace H := cnd_t H hb1
    refine ago_seqE E33_127 ?_
    refine ago_regE E33_128 (l := [0, 1, 2]) rfl ?_
    refine lk (dt := some 138) R33_47_N rfl rfl rfl (opv_mkIface rfl rfl underlying58 rfl rfl) ?_
    refine lk (dt := some 6) R33_47_N rfl rfl rfl (opv_assign rfl rfl rfl) ?_
    refine lk (dt := some 7) R33_47_N rfl rfl rfl (opv_assign rfl rfl rfl) ?_
    refine aops_nil ?_
    exact ago_retE E33_129 (r := (0, (.iface 58 (.int .i64 2)))) (ares_2 rfl (oneT rfl) (oneT rfl)) rfl H
  · replace H := cnd_f H hb1
    refine ago_skipE E33_130 ?_
    refine ago_seqE E33_131 ?_
    refine ago_seqE E33_132 ?_
    refine ago_regE E33_133 (l := [0, 1, 2]) rfl ?_
    refine lk (dt := some 139) R33_48_N rfl rfl rfl (opv_move rfl rfl h13) ?_
    refine lk (dt := some 140) R33_48_N rfl rfl rfl (opv_move rfl rfl h10) ?_
    refine lk (dt := some 141) R33_48_N rfl rfl rfl (opv_ge rfl rfl rfl rfl rfl) ?_
    refine aops_nil ?_
    refine ago_condE  E33_134 rfl rfl (fun hb2 => ?_) (fun hb2 => ?_)
    · replace H := cnd_t H hb2
      refine ago_seqE E33_135 ?_
      refine ago_regE E33_136 (l := [0, 1, 2, 3]) rfl ?_
      refine lk (dt := some 142) R33_49_N rfl rfl rfl (opv_move rfl rfl h11) ?_
      refine lk (dt := some 143) R33_49_N rfl rfl rfl (opv_mkIface rfl rfl underlying58 rfl rfl) ?_
      refine lk (dt := some 6) R33_49_N rfl rfl rfl (opv_assign rfl rfl rfl) ?_
      refine lk (dt := some 7) R33_49_N rfl rfl rfl (opv_assign rfl rfl rfl) ?_
      refine aops_nil ?_
      exact ago_retE E33_137 (r := (maxVal_11, (.iface 58 (.int .i64 1)))) (ares_2 rfl (oneT rfl) (oneT rfl)) rfl H
    · replace H := cnd_f H hb2
      refine ago_skipE E33_138 ?_
      refine ago_seqE E33_139 ?_
      refine ago_regE E33_140 (l := [0, 1, 2, 3, 4]) rfl ?_
      refine lk (dt := some 144) R33_50_N rfl rfl rfl (opv_move rfl rfl h13) ?_
      refine lk (dt := some 145) R33_50_N rfl rfl rfl (opv_move rfl rfl h1) ?_
      refine lk (dt := some 146) R33_50_N rfl rfl rfl (opv_conv rfl rfl underlying3 underlying59 rfl) ?_
      refine lk (dt := some 147) R33_50_N rfl rfl rfl (opv_mul rfl rfl rfl rfl rfl) ?_
      refine lk (dt := some 13) R33_50_N rfl rfl rfl (opv_assign rfl rfl rfl) ?_
      refine aops_nil ?_
      refine ago_seqE E33_141 ?_
      refine ago_cut (fun ρ => ρ 1 = .int .i64 base_1 ∧ ρ 8 = .bool base0_8 ∧ ρ 9 = .string s0_9 ∧ ρ 10 = .int .u64 cutoff_10 ∧ ρ 11 = .int .u64 maxVal_11 ∧ ρ 12 = .bool underscores_12 ∧ ρ 13 = .int .u64 (IntKind.u64.wrap (n_13 * (IntKind.u64.wrap base_1))) ∧ ρ 16 = .int .u8 d_16 ∧ ρ 99 = t_99 ∧ ρ 100 = .int .i64 t_100 ∧ ρ 101 = .int .i64 t_101 ∧ True) ⟨h1, h8, h9, h10, h11, h12, rfl, h16, h99, h100, h101, trivial⟩ (fun ρ ⟨h1, h8, h9, h10, h11, h12, h13, h16, h99, h100, h101, _⟩ => ?_)
      refine ago_regE E33_142 (l := [0, 1, 2, 3, 4]) rfl ?_
      refine lk (dt := some 148) R33_51_N rfl rfl rfl (opv_move rfl rfl h13) ?_
      refine lk (dt := some 149) R33_51_N rfl rfl rfl (opv_move rfl rfl h16) ?_
      refine lk (dt := some 150) R33_51_N rfl rfl rfl (opv_conv rfl rfl underlying5 underlying59 rfl) ?_
      refine lk (dt := some 151) R33_51_N rfl rfl rfl (opv_add rfl rfl rfl rfl rfl) ?_
      refine lk (dt := some 17) R33_51_N rfl rfl rfl (opv_assign rfl rfl rfl) ?_
      refine aops_nil ?_
      refine ago_seqE E33_143 ?_
      refine ago_seqE E33_144 ?_
      refine ago_regE E33_145 (l := [0, 1, 2, 3, 4, 5, 6, 7]) rfl ?_
      refine lk (dt := some 152) R33_52_N rfl rfl rfl (opv_move rfl rfl rfl) ?_
      refine lk (dt := some 153) R33_52_N rfl rfl rfl (opv_move rfl rfl h13) ?_
      refine lk (dt := some 154) R33_52_N rfl rfl rfl (opv_lt rfl rfl rfl rfl rfl) ?_
      refine lk (dt := some 155) R33_52_N rfl rfl rfl (opv_move rfl rfl rfl) ?_
      rcases Bool.eq_false_or_eq_true (decide ((IntKind.u64.wrap ((IntKind.u64.wrap (n_13 * (IntKind.u64.wrap base_1))) + (IntKind.u64.wrap d_16))) < (IntKind.u64.wrap (n_13 * (IntKind.u64.wrap base_1))))) with hb3 | hb3
      · replace H := cnd_t H hb3
        refine lk_skip (dt := some 156) R33_52_N rfl rfl ⟨_, rfl, .inl ⟨_, rfl, gq hb3 rfl⟩⟩ ?_
        refine lk_skip (dt := some 157) R33_52_N rfl rfl ⟨_, rfl, .inl ⟨_, rfl, gq hb3 rfl⟩⟩ ?_
        refine lk_skip (dt := some 158) R33_52_N rfl rfl ⟨_, rfl, .inl ⟨_, rfl, gq hb3 rfl⟩⟩ ?_
        refine lk (dt := some 159) R33_52_N rfl rfl rfl (ov_pickT rfl rfl rfl rfl rfl hb3 rfl) ?_
        refine aops_nil ?_
        refine ago_condE  E33_146 rfl rfl (fun h => ?_) (fun h => tf h)
        refine ago_seqE E33_147 ?_
        refine ago_cut (fun ρ => ρ 11 = .int .u64 maxVal_11 ∧ True) ⟨h11, trivial⟩ (fun ρ ⟨h11, _⟩ => ?_)
        refine ago_regE E33_148 (l := [0, 1, 2, 3]) rfl ?_
        refine lk (dt := some 160) R33_53_N rfl rfl rfl (opv_move rfl rfl h11) ?_
        refine lk (dt := some 161) R33_53_N rfl rfl rfl (opv_mkIface rfl rfl underlying58 rfl rfl) ?_
        refine lk (dt := some 6) R33_53_N rfl rfl rfl (opv_assign rfl rfl rfl) ?_
        refine lk (dt := some 7) R33_53_N rfl rfl rfl (opv_assign rfl rfl rfl) ?_
        refine aops_nil ?_
        exact ago_retE E33_149 (r := (maxVal_11, (.iface 58 (.int .i64 1)))) (ares_2 rfl (oneT rfl) (oneT rfl)) rfl H
      · replace H := cnd_f H hb3
        refine lk (dt := some 156) R33_52_N rfl rfl ⟨_, rfl, .inl ⟨_, rfl, gq hb3 rfl⟩⟩ (opv_move rfl rfl rfl) ?_
        refine lk (dt := some 157) R33_52_N rfl rfl ⟨_, rfl, .inl ⟨_, rfl, gq hb3 rfl⟩⟩ (opv_move rfl rfl h11) ?_
        refine lk (dt := some 158) R33_52_N rfl rfl ⟨_, rfl, .inl ⟨_, rfl, gq hb3 rfl⟩⟩ (opv_gt rfl rfl rfl rfl rfl) ?_
        refine lk (dt := some 159) R33_52_N rfl rfl rfl (ov_pickF rfl rfl rfl rfl rfl hb3 rfl) ?_
        refine aops_nil ?_
        refine ago_condE  E33_146 rfl rfl (fun hb5 => ?_) (fun hb5 => ?_)
        · replace H := cnd_t H hb5
          refine ago_seqE E33_147 ?_
          refine ago_cut (fun ρ => ρ 11 = .int .u64 maxVal_11 ∧ True) ⟨h11, trivial⟩ (fun ρ ⟨h11, _⟩ => ?_)
          refine ago_regE E33_148 (l := [0, 1, 2, 3]) rfl ?_
          refine lk (dt := some 160) R33_53_N rfl rfl rfl (opv_move rfl rfl h11) ?_
          refine lk (dt := some 161) R33_53_N rfl rfl rfl (opv_mkIface rfl rfl underlying58 rfl rfl) ?_
          refine lk (dt := some 6) R33_53_N rfl rfl rfl (opv_assign rfl rfl rfl) ?_
          refine lk (dt := some 7) R33_53_N rfl rfl rfl (opv_assign rfl rfl rfl) ?_
          refine aops_nil ?_
          exact ago_retE E33_149 (r := (maxVal_11, (.iface 58 (.int .i64 1)))) (ares_2 rfl (oneT rfl) (oneT rfl)) rfl H
        · replace H := cnd_f H hb5
          refine ago_skipE E33_150 ?_
          refine ago_cut (fun ρ => ρ 1 = .int .i64 base_1 ∧ ρ 8 = .bool base0_8 ∧ ρ 9 = .string s0_9 ∧ ρ 10 = .int .u64 cutoff_10 ∧ ρ 11 = .int .u64 maxVal_11 ∧ ρ 12 = .bool underscores_12 ∧ ρ 17 = .int .u64 (IntKind.u64.wrap ((IntKind.u64.wrap (n_13 * (IntKind.u64.wrap base_1))) + (IntKind.u64.wrap d_16))) ∧ ρ 99 = t_99 ∧ ρ 100 = .int .i64 t_100 ∧ ρ 101 = .int .i64 t_101 ∧ True) ⟨h1, h8, h9, h10, h11, h12, rfl, h99, h100, h101, trivial⟩ (fun ρ ⟨h1, h8, h9, h10, h11, h12, h17, h99, h100, h101, _⟩ => ?_)
          refine ago_regE E33_151 (l := [0, 1]) rfl ?_
          refine lk (dt := some 162) R33_54_N rfl rfl rfl (opv_move rfl rfl h17) ?_
          refine lk (dt := some 13) R33_54_N rfl rfl rfl (opv_assign rfl rfl rfl) ?_
          refine aops_nil ?_
          refine ago_inBlock ?_
          exact S33_12_ok Q E nx8 L8 _ base_1 base0_8 s0_9 cutoff_10 maxVal_11 underscores_12 (IntKind.u64.wrap ((IntKind.u64.wrap (n_13 * (IntKind.u64.wrap base_1))) + (IntKind.u64.wrap d_16))) t_99 t_100 t_101 aw h1 h8 h9 h10 h11 h12 rfl h99 h100 h101 H
set_option maxHeartbeats 4000000 in
set_option maxRecDepth 100000 in
theorem S33_10_ok (Q : (Int × Value) → AW → Prop) (E : List PanicEntry → AW → Prop) (nx8 : Int → Bool → ByteArray → Int → Int → Bool → Int → Value → Int → Int → AW → Prop) (L8 : ∀ (ρ : Env) (base_1 : Int) (base0_8 : Bool) (s0_9 : ByteArray) (cutoff_10 : Int) (maxVal_11 : Int) (underscores_12 : Bool) (n_13 : Int) (t_99 : Value) (t_100 : Int) (t_101 : Int) (aw : AW) (h1 : ρ 1 = .int .i64 base_1) (h8 : ρ 8 = .bool base0_8) (h9 : ρ 9 = .string s0_9) (h10 : ρ 10 = .int .u64 cutoff_10) (h11 : ρ 11 = .int .u64 maxVal_11) (h12 : ρ 12 = .bool underscores_12) (h13 : ρ 13 = .int .u64 n_13) (h99 : ρ 99 = t_99) (h100 : ρ 100 = .int .i64 t_100) (h101 : ρ 101 = .int .i64 t_101), nx8 base_1 base0_8 s0_9 cutoff_10 maxVal_11 underscores_12 n_13 t_99 t_100 t_101 aw → AGo prog 172 [.code C33_92, .inLoop C33_92, .inBlock 3, .code C33_153] ρ [] aw (RR prog f33 172 sh33 Q E)) (ρ : Env) (base_1 : Int) (base0_8 : Bool) (s0_9 : ByteArray) (cutoff_10 : Int) (maxVal_11 : Int) (underscores_12 : Bool) (n_13 : Int) (c_15 : Int) (t_99 : Value) (t_100 : Int) (t_101 : Int) (t_112 : Bool) (aw : AW) (h1 : ρ 1 = .int .i64 base_1) (h8 : ρ 8 = .bool base0_8) (h9 : ρ 9 = .string s0_9) (h10 : ρ 10 = .int .u64 cutoff_10) (h11 : ρ 11 = .int .u64 maxVal_11) (h12 : ρ 12 = .bool underscores_12) (h13 : ρ 13 = .int .u64 n_13) (h15 : ρ 15 = .int .u8 c_15) (h99 : ρ 99 = t_99) (h100 : ρ 100 = .int .i64 t_100) (h101 : ρ 101 = .int .i64 t_101) (h112 : ρ 112 = .bool t_112) (H : S33_10 Q E nx8 base_1 base0_8 s0_9 cutoff_10 maxVal_11 underscores_12 n_13 c_15 t_99 t_100 t_101 t_112 aw) :
    AGo prog 172 [.code C33_114, .inBlock 5, .code C33_123, .inBlock 4, .code C33_152, .inLoop C33_92, .inBlock 3, .code C33_153] ρ [] aw (RR prog f33 172 sh33 Q E) := by
  unfold S33_10 at H
  refine ago_condE  E33_114 rfl h112 (fun hb6 => ?_) (fun hb6 => ?_)
  · replace H := cnd_t H hb6
    refine ago_regE E33_115 (l := [0, 1, 2]) rfl ?_
    refine lk (dt := some 119) R33_43_N rfl rfl rfl (opv_move rfl rfl h15) ?_
    refine lk (dt := some 120) R33_43_N rfl rfl rfl (opv_sub rfl rfl rfl rfl rfl) ?_
    refine lk (dt := some 16) R33_43_N rfl rfl rfl (opv_assign rfl rfl rfl) ?_
    refine aops_nil ?_
    exact S33_11_ok Q E nx8 L8 _ base_1 base0_8 s0_9 cutoff_10 maxVal_11 underscores_12 n_13 (IntKind.u8.wrap (c_15 - 48)) t_99 t_100 t_101 aw h1 h8 h9 h10 h11 h12 h13 rfl h99 h100 h101 H
  · replace H := cnd_f H hb6
    refine ago_seqE E33_116 ?_
    refine ago_regE E33_117 (l := [0, 1, 2, 3, 4, 5, 6, 7, 8]) rfl ?_
    refine lk (dt := some 122) R33_44_N rfl rfl rfl (opv_move rfl rfl h15) ?_
    refine lk_call (dt := some 123) R33_44_N rfl rfl rfl (opc_of rfl rfl is39 (ma_cons rfl rfl)) H (fun _ _ h => ⟨rfl, h⟩) fun r7 aw8 H => ?_
    refine lk (dt := some 124) R33_44_N rfl rfl rfl (opv_le rfl rfl rfl rfl rfl) ?_
    refine lk (dt := some 125) R33_44_N rfl rfl rfl (opv_move rfl rfl rfl) ?_
    rcases Bool.eq_false_or_eq_true (decide (97 ≤ r7)) with hb9 | hb9
    · replace H := cnd_t H hb9
      refine lk (dt := some 126) R33_44_N rfl rfl ⟨_, rfl, .inl ⟨_, rfl, gq hb9 rfl⟩⟩ (opv_move rfl rfl h15) ?_
      refine lk_call (dt := some 127) R33_44_N rfl rfl ⟨_, rfl, .inl ⟨_, rfl, gq hb9 rfl⟩⟩ (opc_of rfl rfl is39 (ma_cons rfl rfl)) H (fun _ _ h => ⟨rfl, h⟩) fun r10 aw11 H => ?_
      refine lk (dt := some 128) R33_44_N rfl rfl ⟨_, rfl, .inl ⟨_, rfl, gq hb9 rfl⟩⟩ (opv_le rfl rfl rfl rfl rfl) ?_
      refine lk (dt := some 129) R33_44_N rfl rfl rfl (ov_pickT rfl rfl rfl rfl rfl hb9 rfl) ?_
      refine lk (dt := some 121) R33_44_N rfl rfl rfl (opv_assign rfl rfl rfl) ?_
      refine aops_nil ?_
      refine ago_condE  E33_118 rfl rfl (fun hb12 => ?_) (fun hb12 => ?_)
      · replace H := cnd_t H hb12
        refine ago_regE E33_119 (l := [0, 1, 2, 3, 4]) rfl ?_
        refine lk (dt := some 130) R33_45_N rfl rfl rfl (opv_move rfl rfl h15) ?_
        refine lk_call (dt := some 131) R33_45_N rfl rfl rfl (opc_of rfl rfl is39 (ma_cons rfl rfl)) H (fun _ _ h => ⟨rfl, h⟩) fun r13 aw14 H => ?_
        refine lk (dt := some 132) R33_45_N rfl rfl rfl (opv_sub rfl rfl rfl rfl rfl) ?_
        refine lk (dt := some 133) R33_45_N rfl rfl rfl (opv_add rfl rfl rfl rfl rfl) ?_
        refine lk (dt := some 16) R33_45_N rfl rfl rfl (opv_assign rfl rfl rfl) ?_
        refine aops_nil ?_
        exact S33_11_ok Q E nx8 L8 _ base_1 base0_8 s0_9 cutoff_10 maxVal_11 underscores_12 n_13 (IntKind.u8.wrap ((IntKind.u8.wrap (r13 - 97)) + 10)) t_99 t_100 t_101 aw14 h1 h8 h9 h10 h11 h12 h13 rfl h99 h100 h101 H
      · replace H := cnd_f H hb12
        refine ago_seqE E33_120 ?_
        refine ago_regE E33_121 (l := [0, 1, 2]) rfl ?_
        refine lk (dt := some 105) R33_39_N rfl rfl rfl (opv_mkIface rfl rfl underlying58 rfl rfl) ?_
        refine lk (dt := some 6) R33_39_N rfl rfl rfl (opv_assign rfl rfl rfl) ?_
        refine lk (dt := some 7) R33_39_N rfl rfl rfl (opv_assign rfl rfl rfl) ?_
        refine aops_nil ?_
        exact ago_retE E33_122 (r := (0, (.iface 58 (.int .i64 2)))) (ares_2 rfl (oneT rfl) (oneT rfl)) rfl H
    · replace H := cnd_f H hb9
      refine lk_skip (dt := some 126) R33_44_N rfl rfl ⟨_, rfl, .inl ⟨_, rfl, gq hb9 rfl⟩⟩ ?_
      refine lk_skip (dt := some 127) R33_44_N rfl rfl ⟨_, rfl, .inl ⟨_, rfl, gq hb9 rfl⟩⟩ ?_
      refine lk_skip (dt := some 128) R33_44_N rfl rfl ⟨_, rfl, .inl ⟨_, rfl, gq hb9 rfl⟩⟩ ?_
      refine lk (dt := some 129) R33_44_N rfl rfl rfl (ov_pickF rfl rfl rfl rfl rfl hb9 rfl) ?_
      refine lk (dt := some 121) R33_44_N rfl rfl rfl (opv_assign rfl rfl rfl) ?_
      refine aops_nil ?_
      refine ago_condE  E33_118 rfl rfl (fun h => ft h) (fun h => ?_)
      refine ago_seqE E33_120 ?_
      refine ago_regE E33_121 (l := [0, 1, 2]) rfl ?_
      refine lk (dt := some 105) R33_39_N rfl rfl rfl (opv_mkIface rfl rfl underlying58 rfl rfl) ?_
      refine lk (dt := some 6) R33_39_N rfl rfl rfl (opv_assign rfl rfl rfl) ?_
      refine lk (dt := some 7) R33_39_N rfl rfl rfl (opv_assign rfl rfl rfl) ?_
      refine aops_nil ?_
      exact ago_retE E33_122 (r := (0, (.iface 58 (.int .i64 2)))) (ares_2 rfl (oneT rfl) (oneT rfl)) rfl H
set_option maxHeartbeats 4000000 in
set_option maxRecDepth 100000 in
theorem S33_9_ok (Q : (Int × Value) → AW → Prop) (E : List PanicEntry → AW → Prop) (nx8 : Int → Bool → ByteArray → Int → Int → Bool → Int → Value → Int → Int → AW → Prop) (L8 : ∀ (ρ : Env) (base_1 : Int) (base0_8 : Bool) (s0_9 : ByteArray) (cutoff_10 : Int) (maxVal_11 : Int) (underscores_12 : Bool) (n_13 : Int) (t_99 : Value) (t_100 : Int) (t_101 : Int) (aw : AW) (h1 : ρ 1 = .int .i64 base_1) (h8 : ρ 8 = .bool base0_8) (h9 : ρ 9 = .string s0_9) (h10 : ρ 10 = .int .u64 cutoff_10) (h11 : ρ 11 = .int .u64 maxVal_11) (h12 : ρ 12 = .bool underscores_12) (h13 : ρ 13 = .int .u64 n_13) (h99 : ρ 99 = t_99) (h100 : ρ 100 = .int .i64 t_100) (h101 : ρ 101 = .int .i64 t_101), nx8 base_1 base0_8 s0_9 cutoff_10 maxVal_11 underscores_12 n_13 t_99 t_100 t_101 aw → AGo prog 172 [.code C33_92, .inLoop C33_92, .inBlock 3, .code C33_153] ρ [] aw (RR prog f33 172 sh33 Q E)) (ρ : Env) (base_1 : Int) (base0_8 : Bool) (s0_9 : ByteArray) (cutoff_10 : Int) (maxVal_11 : Int) (underscores_12 : Bool) (n_13 : Int) (c_15 : Int) (t_99 : Value) (t_100 : Int) (t_101 : Int) (t_106 : Bool) (aw : AW) (h1 : ρ 1 = .int .i64 base_1) (h8 : ρ 8 = .bool base0_8) (h9 : ρ 9 = .string s0_9) (h10 : ρ 10 = .int .u64 cutoff_10) (h11 : ρ 11 = .int .u64 maxVal_11) (h12 : ρ 12 = .bool underscores_12) (h13 : ρ 13 = .int .u64 n_13) (h15 : ρ 15 = .int .u8 c_15) (h99 : ρ 99 = t_99) (h100 : ρ 100 = .int .i64 t_100) (h101 : ρ 101 = .int .i64 t_101) (h106 : ρ 106 = .bool t_106) (H : S33_9 Q E nx8 base_1 base0_8 s0_9 cutoff_10 maxVal_11 underscores_12 n_13 c_15 t_99 t_100 t_101 t_106 aw) :
    AGo prog 172 [.code C33_108, .inBlock 5, .code C33_123, .inBlock 4, .code C33_152, .inLoop C33_92, .inBlock 3, .code C33_153] ρ [] aw (RR prog f33 172 sh33 Q E) := by
  unfold S33_9 at H
  refine ago_condE  E33_108 rfl h106 (fun hb16 => ?_) (fun hb16 => ?_)
  · replace H := cnd_t H hb16
    refine ago_seqE E33_109 ?_
    refine ago_regE E33_110 (l := [0]) rfl ?_
    refine lk (dt := some 12) R33_41_N rfl rfl rfl (opv_assign rfl rfl rfl) ?_
    refine aops_nil ?_
    refine ago_exitE E33_111 rfl ?_
    exact S33_12_ok Q E nx8 L8 _ base_1 base0_8 s0_9 cutoff_10 maxVal_11 true n_13 t_99 t_100 t_101 aw h1 h8 h9 h10 h11 rfl h13 h99 h100 h101 H
  · replace H := cnd_f H hb16
    refine ago_seqE E33_112 ?_
    refine ago_regE E33_113 (l := [0, 1, 2, 3, 4, 5, 6]) rfl ?_
    refine lk (dt := some 113) R33_42_N rfl rfl rfl (opv_move rfl rfl h15) ?_
    refine lk (dt := some 114) R33_42_N rfl rfl rfl (opv_le rfl rfl rfl rfl rfl) ?_
    refine lk (dt := some 115) R33_42_N rfl rfl rfl (opv_move rfl rfl rfl) ?_
    rcases Bool.eq_false_or_eq_true (decide (48 ≤ c_15)) with hb17 | hb17
    · replace H := cnd_t H hb17
      refine lk (dt := some 116) R33_42_N rfl rfl ⟨_, rfl, .inl ⟨_, rfl, gq hb17 rfl⟩⟩ (opv_move rfl rfl h15) ?_
      refine lk (dt := some 117) R33_42_N rfl rfl ⟨_, rfl, .inl ⟨_, rfl, gq hb17 rfl⟩⟩ (opv_le rfl rfl rfl rfl rfl) ?_
      refine lk (dt := some 118) R33_42_N rfl rfl rfl (ov_pickT rfl rfl rfl rfl rfl hb17 rfl) ?_
      refine lk (dt := some 112) R33_42_N rfl rfl rfl (opv_assign rfl rfl rfl) ?_
      refine aops_nil ?_
      exact S33_10_ok Q E nx8 L8 _ base_1 base0_8 s0_9 cutoff_10 maxVal_11 underscores_12 n_13 c_15 t_99 t_100 t_101 (decide (c_15 ≤ 57)) aw h1 h8 h9 h10 h11 h12 h13 h15 h99 h100 h101 rfl H
    · replace H := cnd_f H hb17
      refine lk_skip (dt := some 116) R33_42_N rfl rfl ⟨_, rfl, .inl ⟨_, rfl, gq hb17 rfl⟩⟩ ?_
      refine lk_skip (dt := some 117) R33_42_N rfl rfl ⟨_, rfl, .inl ⟨_, rfl, gq hb17 rfl⟩⟩ ?_
      refine lk (dt := some 118) R33_42_N rfl rfl rfl (ov_pickF rfl rfl rfl rfl rfl hb17 rfl) ?_
      refine lk (dt := some 112) R33_42_N rfl rfl rfl (opv_assign rfl rfl rfl) ?_
      refine aops_nil ?_
      exact S33_10_ok Q E nx8 L8 _ base_1 base0_8 s0_9 cutoff_10 maxVal_11 underscores_12 n_13 c_15 t_99 t_100 t_101 false aw h1 h8 h9 h10 h11 h12 h13 h15 h99 h100 h101 rfl H
set_option maxHeartbeats 4000000 in
set_option maxRecDepth 100000 in
theorem S33_8s_ok (Q : (Int × Value) → AW → Prop) (E : List PanicEntry → AW → Prop)  (nx8 : Int → Bool → ByteArray → Int → Int → Bool → Int → Value → Int → Int → AW → Prop) (L8 : ∀ (ρ : Env) (base_1 : Int) (base0_8 : Bool) (s0_9 : ByteArray) (cutoff_10 : Int) (maxVal_11 : Int) (underscores_12 : Bool) (n_13 : Int) (t_99 : Value) (t_100 : Int) (t_101 : Int) (aw : AW) (h1 : ρ 1 = .int .i64 base_1) (h8 : ρ 8 = .bool base0_8) (h9 : ρ 9 = .string s0_9) (h10 : ρ 10 = .int .u64 cutoff_10) (h11 : ρ 11 = .int .u64 maxVal_11) (h12 : ρ 12 = .bool underscores_12) (h13 : ρ 13 = .int .u64 n_13) (h99 : ρ 99 = t_99) (h100 : ρ 100 = .int .i64 t_100) (h101 : ρ 101 = .int .i64 t_101), nx8 base_1 base0_8 s0_9 cutoff_10 maxVal_11 underscores_12 n_13 t_99 t_100 t_101 aw → AGo prog 172 [.code C33_92, .inLoop C33_92, .inBlock 3, .code C33_153] ρ [] aw (RR prog f33 172 sh33 Q E)) (ρ : Env) (base_1 : Int) (base0_8 : Bool) (s0_9 : ByteArray) (cutoff_10 : Int) (maxVal_11 : Int) (underscores_12 : Bool) (n_13 : Int) (t_99 : Value) (t_100 : Int) (t_101 : Int) (aw : AW) (h1 : ρ 1 = .int .i64 base_1) (h8 : ρ 8 = .bool base0_8) (h9 : ρ 9 = .string s0_9) (h10 : ρ 10 = .int .u64 cutoff_10) (h11 : ρ 11 = .int .u64 maxVal_11) (h12 : ρ 12 = .bool underscores_12) (h13 : ρ 13 = .int .u64 n_13) (h99 : ρ 99 = t_99) (h100 : ρ 100 = .int .i64 t_100) (h101 : ρ 101 = .int .i64 t_101) (H : S33_8s Q E  nx8 base_1 base0_8 s0_9 cutoff_10 maxVal_11 underscores_12 n_13 t_99 t_100 t_101 aw) :
    AGo prog 172 [.code C33_92, .inLoop C33_92, .inBlock 3, .code C33_153] ρ [] aw (RR prog f33 172 sh33 Q E) := by
  unfold S33_8s at H
  refine ago_seqE E33_92 ?_
  refine ago_regE E33_93 (l := [0]) rfl ?_
  refine lk (dt := some 102) R33_36_N rfl rfl rfl (opv_lt rfl rfl rfl h101 h100) ?_
  refine aops_nil ?_
  refine ago_seqE E33_94 ?_
  refine ago_condE  E33_95 rfl rfl (fun hb18 => ?_) (fun hb18 => ?_)
  · replace H := cnd_t H hb18
    refine ago_skipE E33_96 ?_
    refine ago_seqE E33_98 ?_
    refine ago_blockE E33_99 ?_
    refine ago_seqE E33_100 ?_
    refine ago_regE E33_101 (l := [0, 1, 2]) rfl ?_
    obtain ⟨b20, i21, l22, c23, p19, hp24, h025, hj26, hv27, H⟩ := H
    refine lk (dt := some 103) R33_37_N rfl rfl rfl (ov_ixS rfl rfl rfl underlying30 sz5 h99 h101 hp24 h025 hj26 hv27) ?_
    obtain ⟨b28, i29, x31, hp30, hg32, H⟩ := H
    refine lk (dt := some 104) R33_37_N rfl rfl rfl (ov_ldI rfl underlying5 rfl rfl hp30 hg32) ?_
    refine lk (dt := some 15) R33_37_N rfl rfl rfl (opv_assign rfl rfl rfl) ?_
    refine aops_nil ?_
    refine ago_seqE E33_102 ?_
    refine ago_regE E33_103 (l := [0]) rfl ?_
    refine lk (dt := some 16) R33_38_N rfl rfl rfl (opv_assign rfl rfl rfl) ?_
    refine aops_nil ?_
    refine ago_seqE E33_104 ?_
    refine ago_blockE E33_105 ?_
    refine ago_seqE E33_106 ?_
    refine ago_regE E33_107 (l := [0, 1, 2, 3, 4, 5]) rfl ?_
    refine lk (dt := some 107) R33_40_N rfl rfl rfl (opv_move rfl rfl rfl) ?_
    refine lk (dt := some 108) R33_40_N rfl rfl rfl (opv_eqI rfl rfl rfl rfl rfl) ?_
    refine lk (dt := some 109) R33_40_N rfl rfl rfl (opv_move rfl rfl rfl) ?_
    rcases Bool.eq_false_or_eq_true (decide (x31 = 95)) with hb33 | hb33
    · replace H := cnd_t H hb33
      refine lk (dt := some 110) R33_40_N rfl rfl ⟨_, rfl, .inl ⟨_, rfl, gq hb33 rfl⟩⟩ (opv_move rfl rfl h8) ?_
      refine lk (dt := some 111) R33_40_N rfl rfl rfl (ov_pickT rfl rfl rfl rfl rfl hb33 rfl) ?_
      refine lk (dt := some 106) R33_40_N rfl rfl rfl (opv_assign rfl rfl rfl) ?_
      refine aops_nil ?_
      exact S33_9_ok Q E nx8 L8 _ base_1 base0_8 s0_9 cutoff_10 maxVal_11 underscores_12 n_13 x31 t_99 t_100 t_101 base0_8 aw h1 h8 h9 h10 h11 h12 h13 rfl h99 h100 h101 rfl H
    · replace H := cnd_f H hb33
      refine lk_skip (dt := some 110) R33_40_N rfl rfl ⟨_, rfl, .inl ⟨_, rfl, gq hb33 rfl⟩⟩ ?_
      refine lk (dt := some 111) R33_40_N rfl rfl rfl (ov_pickF rfl rfl rfl rfl rfl hb33 rfl) ?_
      refine lk (dt := some 106) R33_40_N rfl rfl rfl (opv_assign rfl rfl rfl) ?_
      refine aops_nil ?_
      exact S33_9_ok Q E nx8 L8 _ base_1 base0_8 s0_9 cutoff_10 maxVal_11 underscores_12 n_13 x31 t_99 t_100 t_101 false aw h1 h8 h9 h10 h11 h12 h13 rfl h99 h100 h101 rfl H
  · replace H := cnd_f H hb18
    refine ago_exitE E33_97 rfl ?_
    refine ago_seqE E33_153 ?_
    refine ago_seqE E33_154 ?_
    refine ago_regE E33_155 (l := [0, 1, 2, 3, 4, 5]) rfl ?_
    refine lk (dt := some 164) R33_56_N rfl rfl rfl (opv_move rfl rfl h12) ?_
    refine lk (dt := some 165) R33_56_N rfl rfl rfl (opv_move rfl rfl rfl) ?_
    rcases Bool.eq_false_or_eq_true underscores_12 with hb34 | hb34
    · replace H := cnd_t H hb34
      refine lk (dt := some 166) R33_56_N rfl rfl ⟨_, rfl, .inl ⟨_, rfl, gq hb34 rfl⟩⟩ (opv_move rfl rfl h9) ?_
      refine lk_call (dt := some 167) R33_56_N rfl rfl ⟨_, rfl, .inl ⟨_, rfl, gq hb34 rfl⟩⟩ (opc_of rfl rfl is40 (ma_cons rfl rfl)) H (fun _ _ h => ⟨rfl, h⟩) fun r35 aw36 H => ?_
      refine lk (dt := some 168) R33_56_N rfl rfl ⟨_, rfl, .inl ⟨_, rfl, gq hb34 rfl⟩⟩ (opv_not rfl rfl rfl) ?_
      refine lk (dt := some 169) R33_56_N rfl rfl rfl (ov_pickT rfl rfl rfl rfl rfl hb34 rfl) ?_
      refine aops_nil ?_
      refine ago_condE  E33_156 rfl rfl (fun hb37 => ?_) (fun hb37 => ?_)
      · replace H := cnd_t H hb37
        refine ago_seqE E33_157 ?_
        refine ago_regE E33_158 (l := [0, 1, 2]) rfl ?_
        refine lk (dt := some 170) R33_57_N rfl rfl rfl (opv_mkIface rfl rfl underlying58 rfl rfl) ?_
        refine lk (dt := some 6) R33_57_N rfl rfl rfl (opv_assign rfl rfl rfl) ?_
        refine lk (dt := some 7) R33_57_N rfl rfl rfl (opv_assign rfl rfl rfl) ?_
        refine aops_nil ?_
        exact ago_retE E33_159 (r := (0, (.iface 58 (.int .i64 2)))) (ares_2 rfl (oneT rfl) (oneT rfl)) rfl H
      · replace H := cnd_f H hb37
        refine ago_skipE E33_160 ?_
        refine ago_seqE E33_161 ?_
        refine ago_regE E33_162 (l := [0, 1, 2]) rfl ?_
        refine lk (dt := some 171) R33_58_N rfl rfl rfl (opv_move rfl rfl h13) ?_
        refine lk (dt := some 6) R33_58_N rfl rfl rfl (opv_assign rfl rfl rfl) ?_
        refine lk (dt := some 7) R33_58_N rfl rfl rfl (opv_assign rfl rfl rfl) ?_
        refine aops_nil ?_
        exact ago_retE E33_163 (r := (n_13, (.nilIface ))) (ares_2 rfl (oneT rfl) (oneT rfl)) rfl H
    · replace H := cnd_f H hb34
      refine lk_skip (dt := some 166) R33_56_N rfl rfl ⟨_, rfl, .inl ⟨_, rfl, gq hb34 rfl⟩⟩ ?_
      refine lk_skip (dt := some 167) R33_56_N rfl rfl ⟨_, rfl, .inl ⟨_, rfl, gq hb34 rfl⟩⟩ ?_
      refine lk_skip (dt := some 168) R33_56_N rfl rfl ⟨_, rfl, .inl ⟨_, rfl, gq hb34 rfl⟩⟩ ?_
      refine lk (dt := some 169) R33_56_N rfl rfl rfl (ov_pickF rfl rfl rfl rfl rfl hb34 rfl) ?_
      refine aops_nil ?_
      refine ago_condE  E33_156 rfl rfl (fun h => ft h) (fun h => ?_)
      refine ago_skipE E33_160 ?_
      refine ago_seqE E33_161 ?_
      refine ago_regE E33_162 (l := [0, 1, 2]) rfl ?_
      refine lk (dt := some 171) R33_58_N rfl rfl rfl (opv_move rfl rfl h13) ?_
      refine lk (dt := some 6) R33_58_N rfl rfl rfl (opv_assign rfl rfl rfl) ?_
      refine lk (dt := some 7) R33_58_N rfl rfl rfl (opv_assign rfl rfl rfl) ?_
      refine aops_nil ?_
      exact ago_retE E33_163 (r := (n_13, (.nilIface ))) (ares_2 rfl (oneT rfl) (oneT rfl)) rfl H
theorem S33_8_ok (Q : (Int × Value) → AW → Prop) (E : List PanicEntry → AW → Prop)  : ∀ (n : Nat) (ρ : Env) (base_1 : Int) (base0_8 : Bool) (s0_9 : ByteArray) (cutoff_10 : Int) (maxVal_11 : Int) (underscores_12 : Bool) (n_13 : Int) (t_99 : Value) (t_100 : Int) (t_101 : Int) (aw : AW) (h1 : ρ 1 = .int .i64 base_1) (h8 : ρ 8 = .bool base0_8) (h9 : ρ 9 = .string s0_9) (h10 : ρ 10 = .int .u64 cutoff_10) (h11 : ρ 11 = .int .u64 maxVal_11) (h12 : ρ 12 = .bool underscores_12) (h13 : ρ 13 = .int .u64 n_13) (h99 : ρ 99 = t_99) (h100 : ρ 100 = .int .i64 t_100) (h101 : ρ 101 = .int .i64 t_101), S33_8 Q E  n base_1 base0_8 s0_9 cutoff_10 maxVal_11 underscores_12 n_13 t_99 t_100 t_101 aw →
    AGo prog 172 [.code C33_92, .inLoop C33_92, .inBlock 3, .code C33_153] ρ [] aw (RR prog f33 172 sh33 Q E)
  | 0, _, _, _, _, _, _, _, _, _, _, _, _, _, _, _, _, _, _, _, _, _, _ => fun H => H.elim
  | n + 1, ρ, base_1, base0_8, s0_9, cutoff_10, maxVal_11, underscores_12, n_13, t_99, t_100, t_101, aw, h1, h8, h9, h10, h11, h12, h13, h99, h100, h101 => fun H => S33_8s_ok Q E  _ (S33_8_ok Q E  n) ρ base_1 base0_8 s0_9 cutoff_10 maxVal_11 underscores_12 n_13 t_99 t_100 t_101 aw h1 h8 h9 h10 h11 h12 h13 h99 h100 h101 H
set_option maxHeartbeats 4000000 in
set_option maxRecDepth 100000 in
theorem S33_7_ok (Q : (Int × Value) → AW → Prop) (E : List PanicEntry → AW → Prop)  (ρ : Env) (s_0 : ByteArray) (base_1 : Int) (bitSize_2 : Int) (base0_8 : Bool) (s0_9 : ByteArray) (cutoff_10 : Int) (aw : AW) (h0 : ρ 0 = .string s_0) (h1 : ρ 1 = .int .i64 base_1) (h2 : ρ 2 = .int .i64 bitSize_2) (h8 : ρ 8 = .bool base0_8) (h9 : ρ 9 = .string s0_9) (h10 : ρ 10 = .int .u64 cutoff_10) (H : S33_7 Q E  s_0 base_1 bitSize_2 base0_8 s0_9 cutoff_10 aw) :
    AGo prog 172 [.inBlock 2, .code C33_81] ρ [] aw (RR prog f33 172 sh33 Q E) := by
  unfold S33_7 at H
  refine ago_inBlock ?_
  refine ago_seqE E33_81 ?_
  refine ago_regE E33_82 (l := [0, 1, 2, 3, 4]) rfl ?_
  refine lk (dt := some 94) R33_32_N rfl rfl rfl (opv_move rfl rfl h2) ?_
  refine lk (dt := some 95) R33_32_N rfl rfl rfl (opv_conv rfl rfl underlying3 underlying62 rfl) ?_
  obtain ⟨hz39, H⟩ := H
  refine lk (dt := some 96) R33_32_N rfl rfl rfl (opv_shl rfl rfl rfl rfl rfl hz39) ?_
  refine lk (dt := some 97) R33_32_N rfl rfl rfl (opv_sub rfl rfl rfl rfl rfl) ?_
  refine lk (dt := some 11) R33_32_N rfl rfl rfl (opv_assign rfl rfl rfl) ?_
  refine aops_nil ?_
  refine ago_seqE E33_83 ?_
  refine ago_regE E33_84 (l := [0]) rfl ?_
  refine lk (dt := some 12) R33_33_N rfl rfl rfl (opv_assign rfl rfl rfl) ?_
  refine aops_nil ?_
  refine ago_seqE E33_85 ?_
  refine ago_regE E33_86 (l := [0]) rfl ?_
  refine lk (dt := some 13) R33_34_N rfl rfl rfl (opv_assign rfl rfl rfl) ?_
  refine aops_nil ?_
  refine ago_seqE E33_87 ?_
  refine ago_seqE E33_88 ?_
  refine ago_regE E33_89 (l := [0, 1, 2, 3]) rfl ?_
  refine lk (dt := some 98) R33_35_N rfl rfl rfl (opv_move rfl rfl h0) ?_
  obtain ⟨p40, aw41, hp42, ha43, H⟩ := H
  refine lk (dt := some 99) R33_35_N rfl rfl rfl (ov_toB rfl rfl underlying9 underlying30 underlying5 rfl hp42 ha43) ?_
  obtain ⟨q45, l46, c47, n44, hv48, hn49, H⟩ := H
  refine lk (dt := some 100) R33_35_N rfl rfl rfl (ov_len rfl rfl rfl underlying30 rfl hv48 hn49) ?_
  refine lk (dt := some 101) R33_35_N rfl rfl rfl (opv_move rfl rfl rfl) ?_
  refine aops_nil ?_
  refine ago_blockE E33_90 ?_
  refine ago_loopE E33_91 ?_
  obtain ⟨n, H⟩ := H
  exact S33_8_ok Q E  n _ base_1 base0_8 s0_9 cutoff_10 (IntKind.u64.wrap ((IntKind.u64.wrap (1 * 2 ^ (min (IntKind.u64.wrap bitSize_2).toNat IntKind.u64.bits))) - 1)) false 0 p40 n44 0 aw41 h1 h8 h9 h10 rfl rfl rfl rfl rfl rfl H
set_option maxHeartbeats 4000000 in
set_option maxRecDepth 100000 in
theorem S33_6_ok (Q : (Int × Value) → AW → Prop) (E : List PanicEntry → AW → Prop)  (ρ : Env) (s_0 : ByteArray) (base_1 : Int) (bitSize_2 : Int) (base0_8 : Bool) (s0_9 : ByteArray) (aw : AW) (h0 : ρ 0 = .string s_0) (h1 : ρ 1 = .int .i64 base_1) (h2 : ρ 2 = .int .i64 bitSize_2) (h8 : ρ 8 = .bool base0_8) (h9 : ρ 9 = .string s0_9) (H : S33_6 Q E  s_0 base_1 bitSize_2 base0_8 s0_9 aw) :
    AGo prog 172 [.code C33_66] ρ [] aw (RR prog f33 172 sh33 Q E) := by
  unfold S33_6 at H
  refine ago_seqE E33_66 ?_
  refine ago_regE E33_67 (l := [0]) rfl ?_
  refine lk (dt := some 10) R33_25_N rfl rfl rfl (opv_assign rfl rfl rfl) ?_
  refine aops_nil ?_
  refine ago_seqE E33_68 ?_
  refine ago_seqE E33_69 ?_
  refine ago_regE E33_70 (l := [0]) rfl ?_
  refine lk (dt := some 85) R33_26_N rfl rfl rfl (opv_move rfl rfl h1) ?_
  refine aops_nil ?_
  refine ago_blockE E33_71 ?_
  refine ago_seqE E33_72 ?_
  refine ago_regE E33_73 (l := [0, 1]) rfl ?_
  refine lk (dt := some 91) R33_28_N rfl rfl rfl (opv_eqI rfl rfl rfl rfl rfl) ?_
  refine lk (dt := some 90) R33_28_N rfl rfl rfl (opv_assign rfl rfl rfl) ?_
  refine aops_nil ?_
  refine ago_condE  E33_74 rfl rfl (fun hb50 => ?_) (fun hb50 => ?_)
  · replace H := cnd_t H hb50
    refine ago_regE E33_75 (l := [0]) rfl ?_
    refine lk (dt := some 10) R33_29_N rfl rfl rfl (opv_assign rfl rfl rfl) ?_
    refine aops_nil ?_
    exact S33_7_ok Q E  _ s_0 base_1 bitSize_2 base0_8 s0_9 1844674407370955162 aw h0 h1 h2 h8 h9 rfl H
  · replace H := cnd_f H hb50
    refine ago_seqE E33_76 ?_
    refine ago_regE E33_77 (l := [0, 1]) rfl ?_
    refine lk (dt := some 93) R33_30_N rfl rfl rfl (opv_eqI rfl rfl rfl rfl rfl) ?_
    refine lk (dt := some 92) R33_30_N rfl rfl rfl (opv_assign rfl rfl rfl) ?_
    refine aops_nil ?_
    refine ago_condE  E33_78 rfl rfl (fun hb51 => ?_) (fun hb51 => ?_)
    · replace H := cnd_t H hb51
      refine ago_regE E33_79 (l := [0]) rfl ?_
      refine lk (dt := some 10) R33_31_N rfl rfl rfl (opv_assign rfl rfl rfl) ?_
      refine aops_nil ?_
      exact S33_7_ok Q E  _ s_0 base_1 bitSize_2 base0_8 s0_9 1152921504606846976 aw h0 h1 h2 h8 h9 rfl H
    · replace H := cnd_f H hb51
      refine ago_regE E33_80 (l := [0, 1, 2, 3, 4]) rfl ?_
      refine lk (dt := some 86) R33_27_N rfl rfl rfl (opv_move rfl rfl h1) ?_
      refine lk (dt := some 87) R33_27_N rfl rfl rfl (opv_conv rfl rfl underlying3 underlying59 rfl) ?_
      obtain ⟨hz52, H⟩ := H
      refine lk (dt := some 88) R33_27_N rfl rfl rfl (opv_quo rfl rfl rfl rfl rfl hz52) ?_
      refine lk (dt := some 89) R33_27_N rfl rfl rfl (opv_add rfl rfl rfl rfl rfl) ?_
      refine lk (dt := some 10) R33_27_N rfl rfl rfl (opv_assign rfl rfl rfl) ?_
      refine aops_nil ?_
      exact S33_7_ok Q E  _ s_0 base_1 bitSize_2 base0_8 s0_9 (IntKind.u64.wrap ((IntKind.u64.wrap (Int.tdiv 18446744073709551615 (IntKind.u64.wrap base_1))) + 1)) aw h0 h1 h2 h8 h9 rfl H
set_option maxHeartbeats 4000000 in
set_option maxRecDepth 100000 in
theorem S33_5_ok (Q : (Int × Value) → AW → Prop) (E : List PanicEntry → AW → Prop)  (ρ : Env) (s_0 : ByteArray) (base_1 : Int) (bitSize_2 : Int) (base0_8 : Bool) (s0_9 : ByteArray) (aw : AW) (h0 : ρ 0 = .string s_0) (h1 : ρ 1 = .int .i64 base_1) (h2 : ρ 2 = .int .i64 bitSize_2) (h8 : ρ 8 = .bool base0_8) (h9 : ρ 9 = .string s0_9) (H : S33_5 Q E  s_0 base_1 bitSize_2 base0_8 s0_9 aw) :
    AGo prog 172 [.inBlock 0, .code C33_54] ρ [] aw (RR prog f33 172 sh33 Q E) := by
  unfold S33_5 at H
  refine ago_inBlock ?_
  refine ago_seqE E33_54 ?_
  refine ago_seqE E33_55 ?_
  refine ago_regE E33_56 (l := [0, 1]) rfl ?_
  refine lk (dt := some 76) R33_21_N rfl rfl rfl (opv_move rfl rfl h2) ?_
  refine lk (dt := some 77) R33_21_N rfl rfl rfl (opv_eqI rfl rfl rfl rfl rfl) ?_
  refine aops_nil ?_
  refine ago_condE  E33_57 rfl rfl (fun hb53 => ?_) (fun hb53 => ?_)
  · replace H := cnd_t H hb53
    refine ago_regE E33_58 (l := [0]) rfl ?_
    refine lk (dt := some 2) R33_22_N rfl rfl rfl (opv_assign rfl rfl rfl) ?_
    refine aops_nil ?_
    exact S33_6_ok Q E  _ s_0 base_1 64 base0_8 s0_9 aw h0 h1 rfl h8 h9 H
  · replace H := cnd_f H hb53
    refine ago_seqE E33_59 ?_
    refine ago_regE E33_60 (l := [0, 1, 2, 3, 4, 5]) rfl ?_
    refine lk (dt := some 78) R33_23_N rfl rfl rfl (opv_move rfl rfl h2) ?_
    refine lk (dt := some 79) R33_23_N rfl rfl rfl (opv_lt rfl rfl rfl rfl rfl) ?_
    refine lk (dt := some 80) R33_23_N rfl rfl rfl (opv_move rfl rfl rfl) ?_
    rcases Bool.eq_false_or_eq_true (decide (bitSize_2 < 0)) with hb54 | hb54
    · replace H := cnd_t H hb54
      refine lk_skip (dt := some 81) R33_23_N rfl rfl ⟨_, rfl, .inl ⟨_, rfl, gq hb54 rfl⟩⟩ ?_
      refine lk_skip (dt := some 82) R33_23_N rfl rfl ⟨_, rfl, .inl ⟨_, rfl, gq hb54 rfl⟩⟩ ?_
      refine lk (dt := some 83) R33_23_N rfl rfl rfl (ov_pickT rfl rfl rfl rfl rfl hb54 rfl) ?_
      refine aops_nil ?_
      refine ago_condE  E33_61 rfl rfl (fun h => ?_) (fun h => tf h)
      refine ago_seqE E33_62 ?_
      refine ago_regE E33_63 (l := [0, 1, 2]) rfl ?_
      refine lk (dt := some 84) R33_24_N rfl rfl rfl (opv_mkIface rfl rfl underlying58 rfl rfl) ?_
      refine lk (dt := some 6) R33_24_N rfl rfl rfl (opv_assign rfl rfl rfl) ?_
      refine lk (dt := some 7) R33_24_N rfl rfl rfl (opv_assign rfl rfl rfl) ?_
      refine aops_nil ?_
      exact ago_retE E33_64 (r := (0, (.iface 58 (.int .i64 4)))) (ares_2 rfl (oneT rfl) (oneT rfl)) rfl H
    · replace H := cnd_f H hb54
      refine lk (dt := some 81) R33_23_N rfl rfl ⟨_, rfl, .inl ⟨_, rfl, gq hb54 rfl⟩⟩ (opv_move rfl rfl h2) ?_
      refine lk (dt := some 82) R33_23_N rfl rfl ⟨_, rfl, .inl ⟨_, rfl, gq hb54 rfl⟩⟩ (opv_gt rfl rfl rfl rfl rfl) ?_
      refine lk (dt := some 83) R33_23_N rfl rfl rfl (ov_pickF rfl rfl rfl rfl rfl hb54 rfl) ?_
      refine aops_nil ?_
      refine ago_condE  E33_61 rfl rfl (fun hb56 => ?_) (fun hb56 => ?_)
      · replace H := cnd_t H hb56
        refine ago_seqE E33_62 ?_
        refine ago_regE E33_63 (l := [0, 1, 2]) rfl ?_
        refine lk (dt := some 84) R33_24_N rfl rfl rfl (opv_mkIface rfl rfl underlying58 rfl rfl) ?_
        refine lk (dt := some 6) R33_24_N rfl rfl rfl (opv_assign rfl rfl rfl) ?_
        refine lk (dt := some 7) R33_24_N rfl rfl rfl (opv_assign rfl rfl rfl) ?_
        refine aops_nil ?_
        exact ago_retE E33_64 (r := (0, (.iface 58 (.int .i64 4)))) (ares_2 rfl (oneT rfl) (oneT rfl)) rfl H
      · replace H := cnd_f H hb56
        refine ago_skipE E33_65 ?_
        exact S33_6_ok Q E  _ s_0 base_1 bitSize_2 base0_8 s0_9 aw h0 h1 h2 h8 h9 H
set_option maxHeartbeats 4000000 in
set_option maxRecDepth 100000 in
theorem S33_4_ok (Q : (Int × Value) → AW → Prop) (E : List PanicEntry → AW → Prop)  (ρ : Env) (s_0 : ByteArray) (base_1 : Int) (bitSize_2 : Int) (base0_8 : Bool) (s0_9 : ByteArray) (aw : AW) (h0 : ρ 0 = .string s_0) (h1 : ρ 1 = .int .i64 base_1) (h2 : ρ 2 = .int .i64 bitSize_2) (h8 : ρ 8 = .bool base0_8) (h9 : ρ 9 = .string s0_9) (H : S33_4 Q E  s_0 base_1 bitSize_2 base0_8 s0_9 aw) :
    AGo prog 172 [.inBlock 1, .inBlock 0, .code C33_54] ρ [] aw (RR prog f33 172 sh33 Q E) := by
  unfold S33_4 at H
  refine ago_inBlock ?_
  exact S33_5_ok Q E  _ s_0 base_1 bitSize_2 base0_8 s0_9 aw h0 h1 h2 h8 h9 H
set_option maxHeartbeats 4000000 in
set_option maxRecDepth 100000 in
theorem S33_3_ok (Q : (Int × Value) → AW → Prop) (E : List PanicEntry → AW → Prop)  (ρ : Env) (s_0 : ByteArray) (bitSize_2 : Int) (base0_8 : Bool) (s0_9 : ByteArray) (t_52 : Bool) (aw : AW) (h0 : ρ 0 = .string s_0) (h2 : ρ 2 = .int .i64 bitSize_2) (h8 : ρ 8 = .bool base0_8) (h9 : ρ 9 = .string s0_9) (h52 : ρ 52 = .bool t_52) (H : S33_3 Q E  s_0 bitSize_2 base0_8 s0_9 t_52 aw) :
    AGo prog 172 [.code C33_37, .inBlock 1, .inBlock 0, .code C33_54] ρ [] aw (RR prog f33 172 sh33 Q E) := by
  unfold S33_3 at H
  refine ago_condE  E33_37 rfl h52 (fun hb57 => ?_) (fun hb57 => ?_)
  · replace H := cnd_t H hb57
    refine ago_seqE E33_38 ?_
    refine ago_regE E33_39 (l := [0]) rfl ?_
    refine lk (dt := some 1) R33_16_N rfl rfl rfl (opv_assign rfl rfl rfl) ?_
    refine aops_nil ?_
    refine ago_regE E33_40 (l := [0, 1, 2]) rfl ?_
    refine lk (dt := some 62) R33_17_N rfl rfl rfl (opv_move rfl rfl h0) ?_
    obtain ⟨s58, hq59, hq60, hq61, hq62, H⟩ := H
    refine lk (dt := some 63) R33_17_N rfl rfl rfl (ov_cutS rfl rfl underlying9 rfl (bndS rfl) (bndN _ _ _) hq59 hq60 hq61 hq62) ?_
    refine lk (dt := some 0) R33_17_N rfl rfl rfl (opv_assign rfl rfl rfl) ?_
    refine aops_nil ?_
    exact S33_4_ok Q E  _ s58 8 bitSize_2 base0_8 s0_9 aw rfl rfl h2 h8 h9 H
  · replace H := cnd_f H hb57
    refine ago_seqE E33_41 ?_
    refine ago_regE E33_42 (l := [0, 1, 2, 3, 4, 5, 6, 7, 8, 9]) rfl ?_
    refine lk (dt := some 65) R33_18_N rfl rfl rfl (opv_move rfl rfl h0) ?_
    refine lk (dt := some 66) R33_18_N rfl rfl rfl (opv_lenS rfl rfl rfl underlying9 rfl) ?_
    refine lk (dt := some 67) R33_18_N rfl rfl rfl (opv_ge rfl rfl rfl rfl rfl) ?_
    refine lk (dt := some 68) R33_18_N rfl rfl rfl (opv_move rfl rfl rfl) ?_
    rcases Bool.eq_false_or_eq_true (decide (3 ≤ (s_0.size : Int))) with hb63 | hb63
    · replace H := cnd_t H hb63
      refine lk (dt := some 69) R33_18_N rfl rfl ⟨_, rfl, .inl ⟨_, rfl, gq hb63 rfl⟩⟩ (opv_move rfl rfl h0) ?_
      obtain ⟨c64, h065, hj66, hv67, H⟩ := H
      refine lk (dt := some 70) R33_18_N rfl rfl ⟨_, rfl, .inl ⟨_, rfl, gq hb63 rfl⟩⟩ (ov_chr rfl rfl rfl underlying9 rfl rfl h065 hj66 hv67) ?_
      refine lk_call (dt := some 71) R33_18_N rfl rfl ⟨_, rfl, .inl ⟨_, rfl, gq hb63 rfl⟩⟩ (opc_of rfl rfl is39 (ma_cons rfl rfl)) H (fun _ _ h => ⟨rfl, h⟩) fun r68 aw69 H => ?_
      refine lk (dt := some 72) R33_18_N rfl rfl ⟨_, rfl, .inl ⟨_, rfl, gq hb63 rfl⟩⟩ (opv_eqI rfl rfl rfl rfl rfl) ?_
      refine lk (dt := some 73) R33_18_N rfl rfl rfl (ov_pickT rfl rfl rfl rfl rfl hb63 rfl) ?_
      refine lk (dt := some 64) R33_18_N rfl rfl rfl (opv_assign rfl rfl rfl) ?_
      refine aops_nil ?_
      refine ago_condE  E33_43 rfl rfl (fun hb70 => ?_) (fun hb70 => ?_)
      · replace H := cnd_t H hb70
        refine ago_seqE E33_44 ?_
        refine ago_regE E33_45 (l := [0]) rfl ?_
        refine lk (dt := some 1) R33_19_N rfl rfl rfl (opv_assign rfl rfl rfl) ?_
        refine aops_nil ?_
        refine ago_regE E33_46 (l := [0, 1, 2]) rfl ?_
        refine lk (dt := some 74) R33_20_N rfl rfl rfl (opv_move rfl rfl h0) ?_
        obtain ⟨s71, hq72, hq73, hq74, hq75, H⟩ := H
        refine lk (dt := some 75) R33_20_N rfl rfl rfl (ov_cutS rfl rfl underlying9 rfl (bndS rfl) (bndN _ _ _) hq72 hq73 hq74 hq75) ?_
        refine lk (dt := some 0) R33_20_N rfl rfl rfl (opv_assign rfl rfl rfl) ?_
        refine aops_nil ?_
        exact S33_4_ok Q E  _ s71 16 bitSize_2 base0_8 s0_9 aw69 rfl rfl h2 h8 h9 H
      · replace H := cnd_f H hb70
        refine ago_seqE E33_47 ?_
        refine ago_regE E33_48 (l := [0]) rfl ?_
        refine lk (dt := some 1) R33_10_N rfl rfl rfl (opv_assign rfl rfl rfl) ?_
        refine aops_nil ?_
        refine ago_regE E33_49 (l := [0, 1, 2]) rfl ?_
        refine lk (dt := some 38) R33_11_N rfl rfl rfl (opv_move rfl rfl h0) ?_
        obtain ⟨s76, hq77, hq78, hq79, hq80, H⟩ := H
        refine lk (dt := some 39) R33_11_N rfl rfl rfl (ov_cutS rfl rfl underlying9 rfl (bndS rfl) (bndN _ _ _) hq77 hq78 hq79 hq80) ?_
        refine lk (dt := some 0) R33_11_N rfl rfl rfl (opv_assign rfl rfl rfl) ?_
        refine aops_nil ?_
        exact S33_4_ok Q E  _ s76 8 bitSize_2 base0_8 s0_9 aw69 rfl rfl h2 h8 h9 H
    · replace H := cnd_f H hb63
      refine lk_skip (dt := some 69) R33_18_N rfl rfl ⟨_, rfl, .inl ⟨_, rfl, gq hb63 rfl⟩⟩ ?_
      refine lk_skip (dt := some 70) R33_18_N rfl rfl ⟨_, rfl, .inl ⟨_, rfl, gq hb63 rfl⟩⟩ ?_
      refine lk_skip (dt := some 71) R33_18_N rfl rfl ⟨_, rfl, .inl ⟨_, rfl, gq hb63 rfl⟩⟩ ?_
      refine lk_skip (dt := some 72) R33_18_N rfl rfl ⟨_, rfl, .inl ⟨_, rfl, gq hb63 rfl⟩⟩ ?_
      refine lk (dt := some 73) R33_18_N rfl rfl rfl (ov_pickF rfl rfl rfl rfl rfl hb63 rfl) ?_
      refine lk (dt := some 64) R33_18_N rfl rfl rfl (opv_assign rfl rfl rfl) ?_
      refine aops_nil ?_
      refine ago_condE  E33_43 rfl rfl (fun h => ft h) (fun h => ?_)
      refine ago_seqE E33_47 ?_
      refine ago_regE E33_48 (l := [0]) rfl ?_
      refine lk (dt := some 1) R33_10_N rfl rfl rfl (opv_assign rfl rfl rfl) ?_
      refine aops_nil ?_
      refine ago_regE E33_49 (l := [0, 1, 2]) rfl ?_
      refine lk (dt := some 38) R33_11_N rfl rfl rfl (opv_move rfl rfl h0) ?_
      obtain ⟨s82, hq83, hq84, hq85, hq86, H⟩ := H
      refine lk (dt := some 39) R33_11_N rfl rfl rfl (ov_cutS rfl rfl underlying9 rfl (bndS rfl) (bndN _ _ _) hq83 hq84 hq85 hq86) ?_
      refine lk (dt := some 0) R33_11_N rfl rfl rfl (opv_assign rfl rfl rfl) ?_
      refine aops_nil ?_
      exact S33_4_ok Q E  _ s82 8 bitSize_2 base0_8 s0_9 aw rfl rfl h2 h8 h9 H
set_option maxHeartbeats 4000000 in
set_option maxRecDepth 100000 in
theorem S33_2_ok (Q : (Int × Value) → AW → Prop) (E : List PanicEntry → AW → Prop)  (ρ : Env) (s_0 : ByteArray) (bitSize_2 : Int) (base0_8 : Bool) (s0_9 : ByteArray) (t_40 : Bool) (aw : AW) (h0 : ρ 0 = .string s_0) (h2 : ρ 2 = .int .i64 bitSize_2) (h8 : ρ 8 = .bool base0_8) (h9 : ρ 9 = .string s0_9) (h40 : ρ 40 = .bool t_40) (H : S33_2 Q E  s_0 bitSize_2 base0_8 s0_9 t_40 aw) :
    AGo prog 172 [.code C33_31, .inBlock 1, .inBlock 0, .code C33_54] ρ [] aw (RR prog f33 172 sh33 Q E) := by
  unfold S33_2 at H
  refine ago_condE  E33_31 rfl h40 (fun hb87 => ?_) (fun hb87 => ?_)
  · replace H := cnd_t H hb87
    refine ago_seqE E33_32 ?_
    refine ago_regE E33_33 (l := [0]) rfl ?_
    refine lk (dt := some 1) R33_13_N rfl rfl rfl (opv_assign rfl rfl rfl) ?_
    refine aops_nil ?_
    refine ago_regE E33_34 (l := [0, 1, 2]) rfl ?_
    refine lk (dt := some 50) R33_14_N rfl rfl rfl (opv_move rfl rfl h0) ?_
    obtain ⟨s88, hq89, hq90, hq91, hq92, H⟩ := H
    refine lk (dt := some 51) R33_14_N rfl rfl rfl (ov_cutS rfl rfl underlying9 rfl (bndS rfl) (bndN _ _ _) hq89 hq90 hq91 hq92) ?_
    refine lk (dt := some 0) R33_14_N rfl rfl rfl (opv_assign rfl rfl rfl) ?_
    refine aops_nil ?_
    exact S33_4_ok Q E  _ s88 2 bitSize_2 base0_8 s0_9 aw rfl rfl h2 h8 h9 H
  · replace H := cnd_f H hb87
    refine ago_seqE E33_35 ?_
    refine ago_regE E33_36 (l := [0, 1, 2, 3, 4, 5, 6, 7, 8, 9]) rfl ?_
    refine lk (dt := some 53) R33_15_N rfl rfl rfl (opv_move rfl rfl h0) ?_
    refine lk (dt := some 54) R33_15_N rfl rfl rfl (opv_lenS rfl rfl rfl underlying9 rfl) ?_
    refine lk (dt := some 55) R33_15_N rfl rfl rfl (opv_ge rfl rfl rfl rfl rfl) ?_
    refine lk (dt := some 56) R33_15_N rfl rfl rfl (opv_move rfl rfl rfl) ?_
    rcases Bool.eq_false_or_eq_true (decide (3 ≤ (s_0.size : Int))) with hb93 | hb93
    · replace H := cnd_t H hb93
      refine lk (dt := some 57) R33_15_N rfl rfl ⟨_, rfl, .inl ⟨_, rfl, gq hb93 rfl⟩⟩ (opv_move rfl rfl h0) ?_
      obtain ⟨c94, h095, hj96, hv97, H⟩ := H
      refine lk (dt := some 58) R33_15_N rfl rfl ⟨_, rfl, .inl ⟨_, rfl, gq hb93 rfl⟩⟩ (ov_chr rfl rfl rfl underlying9 rfl rfl h095 hj96 hv97) ?_
      refine lk_call (dt := some 59) R33_15_N rfl rfl ⟨_, rfl, .inl ⟨_, rfl, gq hb93 rfl⟩⟩ (opc_of rfl rfl is39 (ma_cons rfl rfl)) H (fun _ _ h => ⟨rfl, h⟩) fun r98 aw99 H => ?_
      refine lk (dt := some 60) R33_15_N rfl rfl ⟨_, rfl, .inl ⟨_, rfl, gq hb93 rfl⟩⟩ (opv_eqI rfl rfl rfl rfl rfl) ?_
      refine lk (dt := some 61) R33_15_N rfl rfl rfl (ov_pickT rfl rfl rfl rfl rfl hb93 rfl) ?_
      refine lk (dt := some 52) R33_15_N rfl rfl rfl (opv_assign rfl rfl rfl) ?_
      refine aops_nil ?_
      exact S33_3_ok Q E  _ s_0 bitSize_2 base0_8 s0_9 (decide (r98 = 111)) aw99 h0 h2 h8 h9 rfl H
    · replace H := cnd_f H hb93
      refine lk_skip (dt := some 57) R33_15_N rfl rfl ⟨_, rfl, .inl ⟨_, rfl, gq hb93 rfl⟩⟩ ?_
      refine lk_skip (dt := some 58) R33_15_N rfl rfl ⟨_, rfl, .inl ⟨_, rfl, gq hb93 rfl⟩⟩ ?_
      refine lk_skip (dt := some 59) R33_15_N rfl rfl ⟨_, rfl, .inl ⟨_, rfl, gq hb93 rfl⟩⟩ ?_
      refine lk_skip (dt := some 60) R33_15_N rfl rfl ⟨_, rfl, .inl ⟨_, rfl, gq hb93 rfl⟩⟩ ?_
      refine lk (dt := some 61) R33_15_N rfl rfl rfl (ov_pickF rfl rfl rfl rfl rfl hb93 rfl) ?_
      refine lk (dt := some 52) R33_15_N rfl rfl rfl (opv_assign rfl rfl rfl) ?_
      refine aops_nil ?_
      exact S33_3_ok Q E  _ s_0 bitSize_2 base0_8 s0_9 false aw h0 h2 h8 h9 rfl H
set_option maxHeartbeats 4000000 in
set_option maxRecDepth 100000 in
theorem S33_1_ok (Q : (Int × Value) → AW → Prop) (E : List PanicEntry → AW → Prop)  (ρ : Env) (s_0 : ByteArray) (base_1 : Int) (bitSize_2 : Int) (base0_8 : Bool) (s0_9 : ByteArray) (t_25 : Bool) (aw : AW) (h0 : ρ 0 = .string s_0) (h1 : ρ 1 = .int .i64 base_1) (h2 : ρ 2 = .int .i64 bitSize_2) (h8 : ρ 8 = .bool base0_8) (h9 : ρ 9 = .string s0_9) (h25 : ρ 25 = .bool t_25) (H : S33_1 Q E  s_0 base_1 bitSize_2 base0_8 s0_9 t_25 aw) :
    AGo prog 172 [.code C33_18, .inBlock 0, .code C33_54] ρ [] aw (RR prog f33 172 sh33 Q E) := by
  unfold S33_1 at H
  refine ago_condE  E33_18 rfl h25 (fun hb100 => ?_) (fun hb100 => ?_)
  · replace H := cnd_t H hb100
    refine ago_skipE E33_19 ?_
    exact S33_5_ok Q E  _ s_0 base_1 bitSize_2 base0_8 s0_9 aw h0 h1 h2 h8 h9 H
  · replace H := cnd_f H hb100
    refine ago_seqE E33_20 ?_
    refine ago_regE E33_21 (l := [0, 1, 2]) rfl ?_
    refine lk (dt := some 33) R33_7_N rfl rfl rfl (opv_move rfl rfl h1) ?_
    refine lk (dt := some 34) R33_7_N rfl rfl rfl (opv_eqI rfl rfl rfl rfl rfl) ?_
    refine lk (dt := some 32) R33_7_N rfl rfl rfl (opv_assign rfl rfl rfl) ?_
    refine aops_nil ?_
    refine ago_condE  E33_22 rfl rfl (fun hb101 => ?_) (fun hb101 => ?_)
    · replace H := cnd_t H hb101
      refine ago_seqE E33_23 ?_
      refine ago_regE E33_24 (l := [0]) rfl ?_
      refine lk (dt := some 1) R33_8_N rfl rfl rfl (opv_assign rfl rfl rfl) ?_
      refine aops_nil ?_
      refine ago_seqE E33_25 ?_
      refine ago_regE E33_26 (l := [0, 1, 2]) rfl ?_
      refine lk (dt := some 35) R33_9_N rfl rfl rfl (opv_move rfl rfl h0) ?_
      obtain ⟨c102, h0103, hj104, hv105, H⟩ := H
      refine lk (dt := some 36) R33_9_N rfl rfl rfl (ov_chr rfl rfl rfl underlying9 rfl rfl h0103 hj104 hv105) ?_
      refine lk (dt := some 37) R33_9_N rfl rfl rfl (opv_eqI rfl rfl rfl rfl rfl) ?_
      refine aops_nil ?_
      refine ago_condE  E33_27 rfl rfl (fun hb106 => ?_) (fun hb106 => ?_)
      · replace H := cnd_t H hb106
        refine ago_blockE E33_28 ?_
        refine ago_seqE E33_29 ?_
        refine ago_regE E33_30 (l := [0, 1, 2, 3, 4, 5, 6, 7, 8, 9]) rfl ?_
        refine lk (dt := some 41) R33_12_N rfl rfl rfl (opv_move rfl rfl h0) ?_
        refine lk (dt := some 42) R33_12_N rfl rfl rfl (opv_lenS rfl rfl rfl underlying9 rfl) ?_
        refine lk (dt := some 43) R33_12_N rfl rfl rfl (opv_ge rfl rfl rfl rfl rfl) ?_
        refine lk (dt := some 44) R33_12_N rfl rfl rfl (opv_move rfl rfl rfl) ?_
        rcases Bool.eq_false_or_eq_true (decide (3 ≤ (s_0.size : Int))) with hb107 | hb107
        · replace H := cnd_t H hb107
          refine lk (dt := some 45) R33_12_N rfl rfl ⟨_, rfl, .inl ⟨_, rfl, gq hb107 rfl⟩⟩ (opv_move rfl rfl h0) ?_
          obtain ⟨c108, h0109, hj110, hv111, H⟩ := H
          refine lk (dt := some 46) R33_12_N rfl rfl ⟨_, rfl, .inl ⟨_, rfl, gq hb107 rfl⟩⟩ (ov_chr rfl rfl rfl underlying9 rfl rfl h0109 hj110 hv111) ?_
          refine lk_call (dt := some 47) R33_12_N rfl rfl ⟨_, rfl, .inl ⟨_, rfl, gq hb107 rfl⟩⟩ (opc_of rfl rfl is39 (ma_cons rfl rfl)) H (fun _ _ h => ⟨rfl, h⟩) fun r112 aw113 H => ?_
          refine lk (dt := some 48) R33_12_N rfl rfl ⟨_, rfl, .inl ⟨_, rfl, gq hb107 rfl⟩⟩ (opv_eqI rfl rfl rfl rfl rfl) ?_
          refine lk (dt := some 49) R33_12_N rfl rfl rfl (ov_pickT rfl rfl rfl rfl rfl hb107 rfl) ?_
          refine lk (dt := some 40) R33_12_N rfl rfl rfl (opv_assign rfl rfl rfl) ?_
          refine aops_nil ?_
          exact S33_2_ok Q E  _ s_0 bitSize_2 base0_8 s0_9 (decide (r112 = 98)) aw113 h0 h2 h8 h9 rfl H
        · replace H := cnd_f H hb107
          refine lk_skip (dt := some 45) R33_12_N rfl rfl ⟨_, rfl, .inl ⟨_, rfl, gq hb107 rfl⟩⟩ ?_
          refine lk_skip (dt := some 46) R33_12_N rfl rfl ⟨_, rfl, .inl ⟨_, rfl, gq hb107 rfl⟩⟩ ?_
          refine lk_skip (dt := some 47) R33_12_N rfl rfl ⟨_, rfl, .inl ⟨_, rfl, gq hb107 rfl⟩⟩ ?_
          refine lk_skip (dt := some 48) R33_12_N rfl rfl ⟨_, rfl, .inl ⟨_, rfl, gq hb107 rfl⟩⟩ ?_
          refine lk (dt := some 49) R33_12_N rfl rfl rfl (ov_pickF rfl rfl rfl rfl rfl hb107 rfl) ?_
          refine lk (dt := some 40) R33_12_N rfl rfl rfl (opv_assign rfl rfl rfl) ?_
          refine aops_nil ?_
          exact S33_2_ok Q E  _ s_0 bitSize_2 base0_8 s0_9 false aw h0 h2 h8 h9 rfl H
      · replace H := cnd_f H hb106
        refine ago_skipE E33_50 ?_
        exact S33_5_ok Q E  _ s_0 10 bitSize_2 base0_8 s0_9 aw h0 rfl h2 h8 h9 H
    · replace H := cnd_f H hb101
      refine ago_seqE E33_51 ?_
      refine ago_regE E33_52 (l := [0, 1, 2]) rfl ?_
      refine lk (dt := some 24) R33_5_N rfl rfl rfl (opv_mkIface rfl rfl underlying58 rfl rfl) ?_
      refine lk (dt := some 6) R33_5_N rfl rfl rfl (opv_assign rfl rfl rfl) ?_
      refine lk (dt := some 7) R33_5_N rfl rfl rfl (opv_assign rfl rfl rfl) ?_
      refine aops_nil ?_
      exact ago_retE E33_53 (r := (0, (.iface 58 (.int .i64 3)))) (ares_2 rfl (oneT rfl) (oneT rfl)) rfl H
set_option maxHeartbeats 4000000 in
set_option maxRecDepth 100000 in
theorem S33_0_ok (Q : (Int × Value) → AW → Prop) (E : List PanicEntry → AW → Prop)  (ρ : Env) (s_0 : ByteArray) (base_1 : Int) (bitSize_2 : Int) (aw : AW) (h0 : ρ 0 = .string s_0) (h1 : ρ 1 = .int .i64 base_1) (h2 : ρ 2 = .int .i64 bitSize_2) (H : S33_0 Q E  s_0 base_1 bitSize_2 aw) :
    AGo prog 172 [.code C33_0] ρ [] aw (RR prog f33 172 sh33 Q E) := by
  unfold S33_0 at H
  refine ago_seqE E33_0 ?_
  refine ago_regE E33_1 (l := [0, 1]) rfl ?_
  refine lk (dt := some 6) R33_0_N rfl rfl rfl (opv_assign rfl rfl rfl) ?_
  refine lk (dt := some 7) R33_0_N rfl rfl rfl (opv_assign rfl rfl rfl) ?_
  refine aops_nil ?_
  refine ago_seqE E33_2 ?_
  refine ago_seqE E33_3 ?_
  refine ago_regE E33_4 (l := [0, 1]) rfl ?_
  refine lk (dt := some 18) R33_1_N rfl rfl rfl (opv_move rfl rfl h0) ?_
  refine lk (dt := some 19) R33_1_N rfl rfl rfl (opv_eqS rfl rfl rfl rfl rfl) ?_
  refine aops_nil ?_
  refine ago_condE  E33_5 rfl rfl (fun hb114 => ?_) (fun hb114 => ?_)
  · replace H := cnd_t H hb114
    refine ago_seqE E33_6 ?_
    refine ago_regE E33_7 (l := [0, 1, 2]) rfl ?_
    refine lk (dt := some 20) R33_2_N rfl rfl rfl (opv_mkIface rfl rfl underlying58 rfl rfl) ?_
    refine lk (dt := some 6) R33_2_N rfl rfl rfl (opv_assign rfl rfl rfl) ?_
    refine lk (dt := some 7) R33_2_N rfl rfl rfl (opv_assign rfl rfl rfl) ?_
    refine aops_nil ?_
    exact ago_retE E33_8 (r := (0, (.iface 58 (.int .i64 2)))) (ares_2 rfl (oneT rfl) (oneT rfl)) rfl H
  · replace H := cnd_f H hb114
    refine ago_skipE E33_9 ?_
    refine ago_seqE E33_10 ?_
    refine ago_regE E33_11 (l := [0, 1, 2]) rfl ?_
    refine lk (dt := some 21) R33_3_N rfl rfl rfl (opv_move rfl rfl h1) ?_
    refine lk (dt := some 22) R33_3_N rfl rfl rfl (opv_eqI rfl rfl rfl rfl rfl) ?_
    refine lk (dt := some 8) R33_3_N rfl rfl rfl (opv_assign rfl rfl rfl) ?_
    refine aops_nil ?_
    refine ago_seqE E33_12 ?_
    refine ago_regE E33_13 (l := [0, 1]) rfl ?_
    refine lk (dt := some 23) R33_4_N rfl rfl rfl (opv_move rfl rfl h0) ?_
    refine lk (dt := some 9) R33_4_N rfl rfl rfl (opv_assign rfl rfl rfl) ?_
    refine aops_nil ?_
    refine ago_seqE E33_14 ?_
    refine ago_blockE E33_15 ?_
    refine ago_seqE E33_16 ?_
    refine ago_regE E33_17 (l := [0, 1, 2, 3, 4, 5, 6]) rfl ?_
    refine lk (dt := some 26) R33_6_N rfl rfl rfl (opv_move rfl rfl h1) ?_
    refine lk (dt := some 27) R33_6_N rfl rfl rfl (opv_le rfl rfl rfl rfl rfl) ?_
    refine lk (dt := some 28) R33_6_N rfl rfl rfl (opv_move rfl rfl rfl) ?_
    rcases Bool.eq_false_or_eq_true (decide (2 ≤ base_1)) with hb115 | hb115
    · replace H := cnd_t H hb115
      refine lk (dt := some 29) R33_6_N rfl rfl ⟨_, rfl, .inl ⟨_, rfl, gq hb115 rfl⟩⟩ (opv_move rfl rfl h1) ?_
      refine lk (dt := some 30) R33_6_N rfl rfl ⟨_, rfl, .inl ⟨_, rfl, gq hb115 rfl⟩⟩ (opv_le rfl rfl rfl rfl rfl) ?_
      refine lk (dt := some 31) R33_6_N rfl rfl rfl (ov_pickT rfl rfl rfl rfl rfl hb115 rfl) ?_
      refine lk (dt := some 25) R33_6_N rfl rfl rfl (opv_assign rfl rfl rfl) ?_
      refine aops_nil ?_
      exact S33_1_ok Q E  _ s_0 base_1 bitSize_2 (decide (base_1 = 0)) s_0 (decide (base_1 ≤ 36)) aw h0 h1 h2 rfl rfl rfl H
    · replace H := cnd_f H hb115
      refine lk_skip (dt := some 29) R33_6_N rfl rfl ⟨_, rfl, .inl ⟨_, rfl, gq hb115 rfl⟩⟩ ?_
      refine lk_skip (dt := some 30) R33_6_N rfl rfl ⟨_, rfl, .inl ⟨_, rfl, gq hb115 rfl⟩⟩ ?_
      refine lk (dt := some 31) R33_6_N rfl rfl rfl (ov_pickF rfl rfl rfl rfl rfl hb115 rfl) ?_
      refine lk (dt := some 25) R33_6_N rfl rfl rfl (opv_assign rfl rfl rfl) ?_
      refine aops_nil ?_
      exact S33_1_ok Q E  _ s_0 base_1 bitSize_2 (decide (base_1 = 0)) s_0 false aw h0 h1 h2 rfl rfl rfl H
theorem F33_ok {Q : (Int × Value) → AW → Prop} {E : List PanicEntry → AW → Prop} (s_0 : ByteArray) (base_1 : Int) (bitSize_2 : Int) (aw : AW) (H : S33_0 Q E s_0 base_1 bitSize_2 aw) : CallP prog 33 [.string s_0, .int .i64 base_1, .int .i64 bitSize_2] aw sh33 Q E :=
  callP_of func33 C33_is rfl (Nat.le_of_ble_eq_true rfl) (S33_0_ok Q E _ s_0 base_1 bitSize_2 aw rfl rfl rfl H)
/-! ### battledore/lex.Tokens: function 10 -/
noncomputable def C10_0 : Code := bodyOf f10
theorem C10_is : f10.body = some C10_0 := by kernel_rfl
noncomputable def C10_1 : Code := cl C10_0
noncomputable def R10_0 : Array Oper := regOps C10_1
noncomputable def C10_2 : Code := cr C10_0
noncomputable def C10_3 : Code := cl C10_2
noncomputable def C10_4 : Code := cl C10_3
noncomputable def C10_5 : Code := cl C10_4
noncomputable def R10_1 : Array Oper := regOps C10_5
noncomputable def C10_6 : Code := cr C10_4
noncomputable def C10_7 : Code := cl C10_6
noncomputable def C10_8 : Code := cl C10_7
noncomputable def R10_2 : Array Oper := regOps C10_8
noncomputable def C10_9 : Code := cr C10_7
noncomputable def C10_10 : Code := cr C10_6
noncomputable def C10_11 : Code := cr C10_3
noncomputable def C10_12 : Code := cl C10_11
noncomputable def R10_3 : Array Oper := regOps C10_12
noncomputable def C10_13 : Code := cr C10_11
noncomputable def C10_14 : Code := cl C10_13
noncomputable def R10_4 : Array Oper := regOps C10_14
noncomputable def C10_15 : Code := cr C10_13
noncomputable def C10_16 : Code := cl C10_15
noncomputable def C10_17 : Code := cr C10_15
noncomputable def C10_18 : Code := cl C10_17
noncomputable def C10_19 : Code := cl C10_18
noncomputable def R10_5 : Array Oper := regOps C10_19
noncomputable def C10_20 : Code := cr C10_18
noncomputable def C10_21 : Code := cl C10_20
noncomputable def C10_22 : Code := cl C10_21
noncomputable def R10_6 : Array Oper := regOps C10_22
noncomputable def C10_23 : Code := cr C10_21
noncomputable def C10_24 : Code := cr C10_20
noncomputable def C10_25 : Code := cr C10_17
noncomputable def C10_26 : Code := cl C10_25
noncomputable def C10_27 : Code := cl C10_26
noncomputable def R10_7 : Array Oper := regOps C10_27
noncomputable def C10_28 : Code := cr C10_26
noncomputable def C10_29 : Code := cl C10_28
noncomputable def C10_30 : Code := cl C10_29
noncomputable def R10_8 : Array Oper := regOps C10_30
noncomputable def C10_31 : Code := cr C10_29
noncomputable def C10_32 : Code := cl C10_31
noncomputable def C10_33 : Code := cl C10_32
noncomputable def R10_9 : Array Oper := regOps C10_33
noncomputable def C10_34 : Code := cr C10_32
noncomputable def C10_35 : Code := cl C10_34
noncomputable def C10_36 : Code := cl C10_35
noncomputable def R10_10 : Array Oper := regOps C10_36
noncomputable def C10_37 : Code := cr C10_35
noncomputable def C10_38 : Code := cr C10_34
noncomputable def C10_39 : Code := cr C10_31
noncomputable def C10_40 : Code := cl C10_39
noncomputable def R10_11 : Array Oper := regOps C10_40
noncomputable def C10_41 : Code := cr C10_39
noncomputable def C10_42 : Code := cr C10_28
noncomputable def C10_43 : Code := cr C10_25
noncomputable def C10_44 : Code := cl C10_43
noncomputable def C10_45 : Code := cl C10_44
noncomputable def R10_12 : Array Oper := regOps C10_45
noncomputable def C10_46 : Code := cr C10_44
noncomputable def C10_47 : Code := cl C10_46
noncomputable def C10_48 : Code := cl C10_47
noncomputable def R10_13 : Array Oper := regOps C10_48
noncomputable def C10_49 : Code := cr C10_47
noncomputable def C10_50 : Code := cr C10_46
noncomputable def C10_51 : Code := cr C10_43
noncomputable def C10_52 : Code := cl C10_51
noncomputable def R10_14 : Array Oper := regOps C10_52
noncomputable def C10_53 : Code := cr C10_51
noncomputable def C10_54 : Code := cl C10_53
noncomputable def C10_55 : Code := cl C10_54
noncomputable def R10_15 : Array Oper := regOps C10_55
noncomputable def C10_56 : Code := cr C10_54
noncomputable def C10_57 : Code := cl C10_56
noncomputable def C10_58 : Code := cl C10_57
noncomputable def R10_16 : Array Oper := regOps C10_58
noncomputable def C10_59 : Code := cr C10_57
noncomputable def C10_60 : Code := cr C10_56
noncomputable def C10_61 : Code := cr C10_53
noncomputable def C10_62 : Code := cl C10_61
noncomputable def R10_17 : Array Oper := regOps C10_62
noncomputable def C10_63 : Code := cr C10_61
noncomputable def C10_64 : Code := cl C10_63
noncomputable def R10_18 : Array Oper := regOps C10_64
noncomputable def C10_65 : Code := cr C10_63
noncomputable def C10_66 : Code := .skip
noncomputable def C10_67 : Code := .seq C10_66 C10_17
theorem R10_0_N : dstsOk 75 R10_0 = true := by decide +kernel
theorem E10_1 : C10_1 = .region 0 R10_0 false := rfl
theorem R10_1_N : dstsOk 75 R10_1 = true := by decide +kernel
theorem E10_5 : C10_5 = .region 1 R10_1 false := rfl
theorem R10_2_N : dstsOk 75 R10_2 = true := by decide +kernel
theorem E10_8 : C10_8 = .region 2 R10_2 false := rfl
theorem E10_9 : C10_9 = .ret := rfl
theorem E10_7 : C10_7 = .seq C10_8 C10_9 := rfl
theorem E10_10 : C10_10 = .skip := rfl
theorem E10_6 : C10_6 = .cond (.tmp 14) C10_7 C10_10 := rfl
theorem E10_4 : C10_4 = .seq C10_5 C10_6 := rfl
theorem R10_3_N : dstsOk 75 R10_3 = true := by decide +kernel
theorem E10_12 : C10_12 = .region 3 R10_3 false := rfl
theorem R10_4_N : dstsOk 75 R10_4 = true := by decide +kernel
theorem E10_14 : C10_14 = .region 4 R10_4 false := rfl
theorem E10_16 : C10_16 = .label 0 := rfl
theorem R10_5_N : dstsOk 75 R10_5 = true := by decide +kernel
theorem E10_19 : C10_19 = .region 5 R10_5 false := rfl
theorem R10_6_N : dstsOk 75 R10_6 = true := by decide +kernel
theorem E10_22 : C10_22 = .region 6 R10_6 false := rfl
theorem E10_23 : C10_23 = .goto 0 := rfl
theorem E10_21 : C10_21 = .seq C10_22 C10_23 := rfl
theorem E10_24 : C10_24 = .skip := rfl
theorem E10_20 : C10_20 = .cond (.tmp 25) C10_21 C10_24 := rfl
theorem E10_18 : C10_18 = .seq C10_19 C10_20 := rfl
theorem R10_7_N : dstsOk 75 R10_7 = true := by decide +kernel
theorem E10_27 : C10_27 = .region 7 R10_7 false := rfl
theorem R10_8_N : dstsOk 75 R10_8 = true := by decide +kernel
theorem E10_30 : C10_30 = .region 8 R10_8 false := rfl
theorem R10_9_N : dstsOk 75 R10_9 = true := by decide +kernel
theorem E10_33 : C10_33 = .region 9 R10_9 false := rfl
theorem R10_10_N : dstsOk 75 R10_10 = true := by decide +kernel
theorem E10_36 : C10_36 = .region 10 R10_10 false := rfl
theorem E10_37 : C10_37 = .ret := rfl
theorem E10_35 : C10_35 = .seq C10_36 C10_37 := rfl
theorem E10_38 : C10_38 = .skip := rfl
theorem E10_34 : C10_34 = .cond (.tmp 37) C10_35 C10_38 := rfl
theorem E10_32 : C10_32 = .seq C10_33 C10_34 := rfl
theorem R10_11_N : dstsOk 75 R10_11 = true := by decide +kernel
theorem E10_40 : C10_40 = .region 11 R10_11 false := rfl
theorem E10_41 : C10_41 = .goto 0 := rfl
theorem E10_39 : C10_39 = .seq C10_40 C10_41 := rfl
theorem E10_31 : C10_31 = .seq C10_32 C10_39 := rfl
theorem E10_29 : C10_29 = .seq C10_30 C10_31 := rfl
theorem E10_42 : C10_42 = .skip := rfl
theorem E10_28 : C10_28 = .cond (.tmp 31) C10_29 C10_42 := rfl
theorem E10_26 : C10_26 = .seq C10_27 C10_28 := rfl
theorem R10_12_N : dstsOk 75 R10_12 = true := by decide +kernel
theorem E10_45 : C10_45 = .region 12 R10_12 false := rfl
theorem R10_13_N : dstsOk 75 R10_13 = true := by decide +kernel
theorem E10_48 : C10_48 = .region 13 R10_13 false := rfl
theorem E10_49 : C10_49 = .ret := rfl
theorem E10_47 : C10_47 = .seq C10_48 C10_49 := rfl
theorem E10_50 : C10_50 = .skip := rfl
theorem E10_46 : C10_46 = .cond (.tmp 45) C10_47 C10_50 := rfl
theorem E10_44 : C10_44 = .seq C10_45 C10_46 := rfl
theorem R10_14_N : dstsOk 75 R10_14 = true := by decide +kernel
theorem E10_52 : C10_52 = .region 14 R10_14 false := rfl
theorem R10_15_N : dstsOk 75 R10_15 = true := by decide +kernel
theorem E10_55 : C10_55 = .region 15 R10_15 false := rfl
theorem R10_16_N : dstsOk 75 R10_16 = true := by decide +kernel
theorem E10_58 : C10_58 = .region 16 R10_16 false := rfl
theorem E10_59 : C10_59 = .ret := rfl
theorem E10_57 : C10_57 = .seq C10_58 C10_59 := rfl
theorem E10_60 : C10_60 = .skip := rfl
theorem E10_56 : C10_56 = .cond (.tmp 61) C10_57 C10_60 := rfl
theorem E10_54 : C10_54 = .seq C10_55 C10_56 := rfl
theorem R10_17_N : dstsOk 75 R10_17 = true := by decide +kernel
theorem E10_62 : C10_62 = .region 17 R10_17 false := rfl
theorem R10_18_N : dstsOk 75 R10_18 = true := by decide +kernel
theorem E10_64 : C10_64 = .region 18 R10_18 false := rfl
theorem E10_65 : C10_65 = .goto 0 := rfl
theorem E10_63 : C10_63 = .seq C10_64 C10_65 := rfl
theorem E10_61 : C10_61 = .seq C10_62 C10_63 := rfl
theorem E10_53 : C10_53 = .seq C10_54 C10_61 := rfl
theorem E10_51 : C10_51 = .seq C10_52 C10_53 := rfl
theorem E10_43 : C10_43 = .seq C10_44 C10_51 := rfl
theorem E10_25 : C10_25 = .seq C10_26 C10_43 := rfl
theorem E10_17 : C10_17 = .seq C10_18 C10_25 := rfl
theorem E10_15 : C10_15 = .seq C10_16 C10_17 := rfl
theorem E10_13 : C10_13 = .seq C10_14 C10_15 := rfl
theorem E10_11 : C10_11 = .seq C10_12 C10_13 := rfl
theorem E10_3 : C10_3 = .seq C10_4 C10_11 := rfl
theorem E10_2 : C10_2 = .scope C10_3 := rfl
theorem E10_0 : C10_0 = .seq C10_1 C10_2 := rfl
theorem E10_66 : C10_66 = .skip := rfl
theorem E10_67 : C10_67 = .seq C10_66 C10_17 := rfl
def S10_2 (Q : (Value × Int × Int) → AW → Prop) (E : List PanicEntry → AW → Prop) (nx1 : ByteArray → Value → Int → AW → Prop) (s_0 : ByteArray) (out_5 : Value) (at_6 : Int) (t_25 : Bool) (aw : AW) : Prop :=
  cnd t_25 (nx1 s_0 out_5 (IntKind.i64.wrap (at_6 + 1)) aw) (cutS s_0 at_6 s_0.size fun s2 =>
  CallP prog 16 [.string s2, .string (⟨#[40, 42]⟩ : ByteArray)] aw sh16 (fun r7 aw8 =>
  cnd r7 (cutS s_0 at_6 s_0.size fun s10 =>
  CallP prog 17 [.string s10] aw8 sh17 (fun r15 aw16 =>
  cnd (decide (r15 < 0)) (Q ((.slice none 0 0), at_6, 4) aw16) (nx1 s_0 out_5 (IntKind.i64.wrap (at_6 + r15)) aw16)) E) (cnd (decide (at_6 = (s_0.size : Int))) (alcS aw8 [.int .u8 0, .string (⟨#[]⟩ : ByteArray), .int .i64 at_6] 33 3 1 fun p19 aw20 =>
  app aw20 33 3 32 out_5 p19 fun v23 aw24 =>
  Q (v23, 0, 0) aw24) (cutS s_0 at_6 s_0.size fun s26 =>
  CallP prog 18 [.string s26] aw8 sh18 (fun r31 aw32 =>
  alc aw32 [.int .u8 0, .string (⟨#[]⟩ : ByteArray), .int .i64 0] 33 0 fun p33 aw34 =>
  st aw34 p33 [.int .u8 r31.1, .string r31.2.1, .int .i64 r31.2.2.1] fun aw37 =>
  cnd (!decide (r31.2.2.2.2.2 = 0)) (Q ((.slice none 0 0), (IntKind.i64.wrap (at_6 + r31.2.2.2.2.1)), r31.2.2.2.2.2) aw37) (fldA p33 2 fun p45 =>
  st aw37 p45 [.int .i64 at_6] fun aw50 =>
  ∃ b57 i58 c60 c61 c62, p33 = .pointer (some ⟨b57, i58, none⟩) ∧ aw50.get b57 i58 = some (.int .u8 c60) ∧ aw50.get b57 (i58 + 1) = some (.string c61) ∧ aw50.get b57 (i58 + 2) = some (.int .i64 c62) ∧ alcS aw50 [.int .u8 c60, .string c61, .int .i64 c62] 33 3 1 fun p66 aw67 =>
  app aw67 33 3 32 out_5 p66 fun v70 aw71 =>
  nx1 s_0 v70 (IntKind.i64.wrap (at_6 + r31.2.2.2.1)) aw71)) E))) E)
def S10_1s (Q : (Value × Int × Int) → AW → Prop) (E : List PanicEntry → AW → Prop)  (nx1 : ByteArray → Value → Int → AW → Prop) (s_0 : ByteArray) (out_5 : Value) (at_6 : Int) (aw : AW) : Prop :=
  cnd (decide (at_6 < (s_0.size : Int))) (chr s_0 at_6 fun c74 =>
  CallP prog 15 [.string (⟨#[32, 10, 9, 13]⟩ : ByteArray), .int .u8 c74] aw sh15 (fun r78 aw79 =>
  S10_2 Q E nx1 s_0 out_5 at_6 (decide (0 ≤ r78)) aw79) E) (S10_2 Q E nx1 s_0 out_5 at_6 false aw)
def S10_1 (Q : (Value × Int × Int) → AW → Prop) (E : List PanicEntry → AW → Prop)  : Nat → ByteArray → Value → Int → AW → Prop
  | 0 => fun _ _ _ _ => False
  | n + 1 => S10_1s Q E  (S10_1 Q E  n)
def S10_0 (Q : (Value × Int × Int) → AW → Prop) (E : List PanicEntry → AW → Prop)  (s_0 : ByteArray) (aw : AW) : Prop :=
  cnd (decide (2000 < (s_0.size : Int))) (Q ((.slice none 0 0), 0, 2) aw) (∃ n, S10_1 Q E  n s_0 (.slice none 0 0) 0 aw)
set_option maxHeartbeats 4000000 in
set_option maxRecDepth 100000 in
theorem S10_2_ok (Q : (Value × Int × Int) → AW → Prop) (E : List PanicEntry → AW → Prop) (nx1 : ByteArray → Value → Int → AW → Prop) (L1 : ∀ (ρ : Env) (s_0 : ByteArray) (out_5 : Value) (at_6 : Int) (aw : AW) (h0 : ρ 0 = .string s_0) (h5 : ρ 5 = out_5) (h6 : ρ 6 = .int .i64 at_6), nx1 s_0 out_5 at_6 aw → AGo prog 75 [.code C10_17, .inScope C10_3] ρ [] aw (RR prog f10 75 sh10 Q E)) (ρ : Env) (s_0 : ByteArray) (out_5 : Value) (at_6 : Int) (t_25 : Bool) (aw : AW) (h0 : ρ 0 = .string s_0) (h5 : ρ 5 = out_5) (h6 : ρ 6 = .int .i64 at_6) (h25 : ρ 25 = .bool t_25) (H : S10_2 Q E nx1 s_0 out_5 at_6 t_25 aw) :
    AGo prog 75 [.code C10_20, .code C10_25, .inScope C10_3] ρ [] aw (RR prog f10 75 sh10 Q E) := by
  unfold S10_2 at H
  refine ago_condE  E10_20 rfl h25 (fun hb1 => ?_) (fun hb1 => ?_)
  · replace H := cnd_t H hb1
    refine ago_seqE E10_21 ?_
    refine ago_regE E10_22 (l := [0, 1, 2]) rfl ?_
    refine lk (dt := some 26) R10_6_N rfl rfl rfl (opv_move rfl rfl h6) ?_
    refine lk (dt := some 27) R10_6_N rfl rfl rfl (opv_add rfl rfl rfl rfl rfl) ?_
    refine lk (dt := some 6) R10_6_N rfl rfl rfl (opv_assign rfl rfl rfl) ?_
    refine aops_nil ?_
    refine ago_gotoE E10_23 (k' := [.code C10_67, .inScope C10_3]) rfl ?_
    refine ago_seqE E10_67 ?_
    refine ago_skipE E10_66 ?_
    exact L1 _ s_0 out_5 (IntKind.i64.wrap (at_6 + 1)) aw h0 h5 rfl H
  · replace H := cnd_f H hb1
    refine ago_skipE E10_24 ?_
    refine ago_seqE E10_25 ?_
    refine ago_seqE E10_26 ?_
    refine ago_regE E10_27 (l := [0, 1, 2, 3]) rfl ?_
    refine lk (dt := some 28) R10_7_N rfl rfl rfl (opv_move rfl rfl h0) ?_
    refine lk (dt := some 29) R10_7_N rfl rfl rfl (opv_move rfl rfl h6) ?_
    obtain ⟨s2, hq3, hq4, hq5, hq6, H⟩ := H
    refine lk (dt := some 30) R10_7_N rfl rfl rfl (ov_cutS rfl rfl underlying9 rfl (bndS rfl) (bndN _ _ _) hq3 hq4 hq5 hq6) ?_
    refine lk_call (dt := some 31) R10_7_N rfl rfl rfl (opc_of rfl rfl is16 (ma_cons rfl (ma_cons rfl rfl))) H (fun _ _ h => ⟨rfl, h⟩) fun r7 aw8 H => ?_
    refine aops_nil ?_
    refine ago_condE  E10_28 rfl rfl (fun hb9 => ?_) (fun hb9 => ?_)
    · replace H := cnd_t H hb9
      refine ago_seqE E10_29 ?_
      refine ago_regE E10_30 (l := [0, 1, 2, 3, 4]) rfl ?_
      refine lk (dt := some 32) R10_8_N rfl rfl rfl (opv_move rfl rfl h0) ?_
      refine lk (dt := some 33) R10_8_N rfl rfl rfl (opv_move rfl rfl h6) ?_
      obtain ⟨s10, hq11, hq12, hq13, hq14, H⟩ := H
      refine lk (dt := some 34) R10_8_N rfl rfl rfl (ov_cutS rfl rfl underlying9 rfl (bndS rfl) (bndN _ _ _) hq11 hq12 hq13 hq14) ?_
      refine lk_call (dt := some 35) R10_8_N rfl rfl rfl (opc_of rfl rfl is17 (ma_cons rfl rfl)) H (fun _ _ h => ⟨rfl, h⟩) fun r15 aw16 H => ?_
      refine lk (dt := some 7) R10_8_N rfl rfl rfl (opv_assign rfl rfl rfl) ?_
      refine aops_nil ?_
      refine ago_seqE E10_31 ?_
      refine ago_seqE E10_32 ?_
      refine ago_regE E10_33 (l := [0, 1]) rfl ?_
      refine lk (dt := some 36) R10_9_N rfl rfl rfl (opv_move rfl rfl rfl) ?_
      refine lk (dt := some 37) R10_9_N rfl rfl rfl (opv_lt rfl rfl rfl rfl rfl) ?_
      refine aops_nil ?_
      refine ago_condE  E10_34 rfl rfl (fun hb17 => ?_) (fun hb17 => ?_)
      · replace H := cnd_t H hb17
        refine ago_seqE E10_35 ?_
        refine ago_regE E10_36 (l := [0, 1, 2, 3]) rfl ?_
        refine lk (dt := some 38) R10_10_N rfl rfl rfl (opv_move rfl rfl h6) ?_
        refine lk (dt := some 2) R10_10_N rfl rfl rfl (opv_assign rfl rfl rfl) ?_
        refine lk (dt := some 3) R10_10_N rfl rfl rfl (opv_assign rfl rfl rfl) ?_
        refine lk (dt := some 4) R10_10_N rfl rfl rfl (opv_assign rfl rfl rfl) ?_
        refine aops_nil ?_
        exact ago_retE E10_37 (r := ((.slice none 0 0), at_6, 4)) (ares_3 rfl (oneT rfl) (oneT rfl) (oneT rfl)) rfl H
      · replace H := cnd_f H hb17
        refine ago_skipE E10_38 ?_
        refine ago_seqE E10_39 ?_
        refine ago_regE E10_40 (l := [0, 1, 2, 3]) rfl ?_
        refine lk (dt := some 39) R10_11_N rfl rfl rfl (opv_move rfl rfl h6) ?_
        refine lk (dt := some 40) R10_11_N rfl rfl rfl (opv_move rfl rfl rfl) ?_
        refine lk (dt := some 41) R10_11_N rfl rfl rfl (opv_add rfl rfl rfl rfl rfl) ?_
        refine lk (dt := some 6) R10_11_N rfl rfl rfl (opv_assign rfl rfl rfl) ?_
        refine aops_nil ?_
        refine ago_gotoE E10_41 (k' := [.code C10_67, .inScope C10_3]) rfl ?_
        refine ago_seqE E10_67 ?_
        refine ago_skipE E10_66 ?_
        exact L1 _ s_0 out_5 (IntKind.i64.wrap (at_6 + r15)) aw16 h0 h5 rfl H
    · replace H := cnd_f H hb9
      refine ago_skipE E10_42 ?_
      refine ago_seqE E10_43 ?_
      refine ago_seqE E10_44 ?_
      refine ago_regE E10_45 (l := [0, 1, 2, 3]) rfl ?_
      refine lk (dt := some 42) R10_12_N rfl rfl rfl (opv_move rfl rfl h6) ?_
      refine lk (dt := some 43) R10_12_N rfl rfl rfl (opv_move rfl rfl h0) ?_
      refine lk (dt := some 44) R10_12_N rfl rfl rfl (opv_lenS rfl rfl rfl underlying9 rfl) ?_
      refine lk (dt := some 45) R10_12_N rfl rfl rfl (opv_eqI rfl rfl rfl rfl rfl) ?_
      refine aops_nil ?_
      refine ago_condE  E10_46 rfl rfl (fun hb18 => ?_) (fun hb18 => ?_)
      · replace H := cnd_t H hb18
        refine ago_seqE E10_47 ?_
        refine ago_regE E10_48 (l := [0, 1, 2, 3, 4, 5, 6, 7]) rfl ?_
        refine lk (dt := some 46) R10_13_N rfl rfl rfl (opv_move rfl rfl h5) ?_
        refine lk (dt := some 47) R10_13_N rfl rfl rfl (opv_move rfl rfl h6) ?_
        refine lk (dt := some 48) R10_13_N rfl rfl rfl (ov_bld (r := [.int .u8 0, .string (⟨#[]⟩ : ByteArray), .int .i64 at_6]) rfl rfl bo33 (mp_cons rfl rfl) (fillP rfl rfl rfl rfl (fillN rfl))) ?_
        obtain ⟨p19, aw20, hp21, ha22, H⟩ := H
        refine lk (dt := some 49) R10_13_N rfl rfl rfl (ov_bsA (r := [.int .u8 0, .string (⟨#[]⟩ : ByteArray), .int .i64 at_6]) (vs := [.agg #[.int .u8 0, .string (⟨#[]⟩ : ByteArray), .int .i64 at_6]]) rfl rfl underlying23 sz33 z33 rfl rfl rfl rfl rfl (mp_cons rfl rfl) (.cons rfl rfl .nil) hp21 ha22) ?_
        obtain ⟨v23, aw24, hq25, H⟩ := H
        refine lk (dt := some 50) R10_13_N rfl rfl rfl (ov_app rfl rfl rfl rfl underlying23 sz33 by33 underlying23 rfl z33 rfl (by decide) (by decide) rfl rfl hq25) ?_
        refine lk (dt := some 2) R10_13_N rfl rfl rfl (opv_assign rfl rfl rfl) ?_
        refine lk (dt := some 3) R10_13_N rfl rfl rfl (opv_assign rfl rfl rfl) ?_
        refine lk (dt := some 4) R10_13_N rfl rfl rfl (opv_assign rfl rfl rfl) ?_
        refine aops_nil ?_
        exact ago_retE E10_49 (r := (v23, 0, 0)) (ares_3 rfl (oneT rfl) (oneT rfl) (oneT rfl)) rfl H
      · replace H := cnd_f H hb18
        refine ago_skipE E10_50 ?_
        refine ago_seqE E10_51 ?_
        refine ago_regE E10_52 (l := [0, 1, 2, 3, 4, 5, 6, 7, 8, 9, 10, 11, 12, 13]) rfl ?_
        refine lk (dt := some 52) R10_14_N rfl rfl rfl (opv_move rfl rfl h0) ?_
        refine lk (dt := some 53) R10_14_N rfl rfl rfl (opv_move rfl rfl h6) ?_
        obtain ⟨s26, hq27, hq28, hq29, hq30, H⟩ := H
        refine lk (dt := some 54) R10_14_N rfl rfl rfl (ov_cutS rfl rfl underlying9 rfl (bndS rfl) (bndN _ _ _) hq27 hq28 hq29 hq30) ?_
        refine lk_call (dt := some 55) R10_14_N rfl rfl rfl (opc_of rfl rfl is18 (ma_cons rfl rfl)) H (fun _ _ h => ⟨rfl, h⟩) fun r31 aw32 H => ?_
        refine lk (dt := some 51) R10_14_N rfl rfl rfl (opv_move rfl rfl rfl) ?_
        refine lk (dt := some 56) R10_14_N rfl rfl rfl (opv_extract rfl rfl rfl rfl) ?_
        refine lk (dt := some 57) R10_14_N rfl rfl rfl (opv_extract rfl rfl rfl rfl) ?_
        refine lk (dt := some 58) R10_14_N rfl rfl rfl (opv_extract rfl rfl rfl rfl) ?_
        refine lk (dt := some 59) R10_14_N rfl rfl rfl (opv_extract rfl rfl rfl rfl) ?_
        obtain ⟨p33, aw34, hp35, ha36, H⟩ := H
        refine lk (dt := some 8) R10_14_N rfl rfl rfl (ov_alloc rfl z33 rfl rfl hp35 ha36) ?_
        obtain ⟨b38, i39, aw37, hp40, hw41, ho42, ha43, H⟩ := H
        refine lk (dt := none) R10_14_N rfl rfl rfl (ov_st rfl rfl rfl rfl rfl rfl sz33 hp40 hw41 ho42 ha43) ?_
        refine lk (dt := some 9) R10_14_N rfl rfl rfl (opv_assign rfl rfl rfl) ?_
        refine lk (dt := some 10) R10_14_N rfl rfl rfl (opv_assign rfl rfl rfl) ?_
        refine lk (dt := some 11) R10_14_N rfl rfl rfl (opv_assign rfl rfl rfl) ?_
        refine aops_nil ?_
        refine ago_seqE E10_53 ?_
        refine ago_seqE E10_54 ?_
        refine ago_cut (fun ρ => ρ 0 = .string s_0 ∧ ρ 5 = out_5 ∧ ρ 6 = .int .i64 at_6 ∧ ρ 8 = p33 ∧ ρ 9 = .int .i64 r31.2.2.2.1 ∧ ρ 10 = .int .i64 r31.2.2.2.2.1 ∧ ρ 11 = .int .i64 r31.2.2.2.2.2 ∧ True) ⟨h0, h5, h6, rfl, rfl, rfl, rfl, trivial⟩ (fun ρ ⟨h0, h5, h6, h8, h9, h10, h11, _⟩ => ?_)
        refine ago_regE E10_55 (l := [0, 1]) rfl ?_
        refine lk (dt := some 60) R10_15_N rfl rfl rfl (opv_move rfl rfl h11) ?_
        refine lk (dt := some 61) R10_15_N rfl rfl rfl (opv_neI rfl rfl rfl rfl rfl) ?_
        refine aops_nil ?_
        refine ago_condE  E10_56 rfl rfl (fun hb44 => ?_) (fun hb44 => ?_)
        · replace H := cnd_t H hb44
          refine ago_seqE E10_57 ?_
          refine ago_regE E10_58 (l := [0, 1, 2, 3, 4, 5, 6]) rfl ?_
          refine lk (dt := some 62) R10_16_N rfl rfl rfl (opv_move rfl rfl h6) ?_
          refine lk (dt := some 63) R10_16_N rfl rfl rfl (opv_move rfl rfl h10) ?_
          refine lk (dt := some 64) R10_16_N rfl rfl rfl (opv_add rfl rfl rfl rfl rfl) ?_
          refine lk (dt := some 65) R10_16_N rfl rfl rfl (opv_move rfl rfl h11) ?_
          refine lk (dt := some 2) R10_16_N rfl rfl rfl (opv_assign rfl rfl rfl) ?_
          refine lk (dt := some 3) R10_16_N rfl rfl rfl (opv_assign rfl rfl rfl) ?_
          refine lk (dt := some 4) R10_16_N rfl rfl rfl (opv_assign rfl rfl rfl) ?_
          refine aops_nil ?_
          exact ago_retE E10_59 (r := ((.slice none 0 0), (IntKind.i64.wrap (at_6 + r31.2.2.2.2.1)), r31.2.2.2.2.2)) (ares_3 rfl (oneT rfl) (oneT rfl) (oneT rfl)) rfl H
        · replace H := cnd_f H hb44
          refine ago_skipE E10_60 ?_
          refine ago_seqE E10_61 ?_
          refine ago_regE E10_62 (l := [0, 1, 2]) rfl ?_
          refine lk (dt := some 66) R10_17_N rfl rfl rfl (opv_move rfl rfl h6) ?_
          obtain ⟨b46, i47, p45, hp48, hv49, H⟩ := H
          refine lk (dt := some 67) R10_17_N rfl rfl rfl (ov_fldA rfl rfl underlying33 rfl sz3 (by decide) h8 hp48 rfl hv49) ?_
          obtain ⟨b51, i52, aw50, hp53, hw54, ho55, ha56, H⟩ := H
          refine lk (dt := none) R10_17_N rfl rfl rfl (ov_st rfl rfl rfl rfl rfl rfl sz3 hp53 hw54 ho55 ha56) ?_
          refine aops_nil ?_
          refine ago_seqE E10_63 ?_
          refine ago_regE E10_64 (l := [0, 1, 2, 3, 4, 5, 6, 7, 8]) rfl ?_
          refine lk (dt := some 68) R10_18_N rfl rfl rfl (opv_move rfl rfl h5) ?_
          obtain ⟨b57, i58, c60, c61, c62, hp59, hg63, hg64, hg65, H⟩ := H
          refine lk (dt := some 69) R10_18_N rfl rfl rfl (ov_ldN rfl underlying33 rfl sz33 rfl h8 hp59 (getN_cons hg63 (getN_cons hg64 (getN_cons hg65 getN_nil)))) ?_
          obtain ⟨p66, aw67, hp68, ha69, H⟩ := H
          refine lk (dt := some 70) R10_18_N rfl rfl rfl (ov_bsA (r := [.int .u8 c60, .string c61, .int .i64 c62]) (vs := [.agg #[.int .u8 c60, .string c61, .int .i64 c62]]) rfl rfl underlying23 sz33 z33 rfl rfl rfl rfl rfl (mp_cons rfl rfl) (.cons rfl rfl .nil) hp68 ha69) ?_
          obtain ⟨v70, aw71, hq72, H⟩ := H
          refine lk (dt := some 71) R10_18_N rfl rfl rfl (ov_app rfl rfl rfl rfl underlying23 sz33 by33 underlying23 rfl z33 rfl (by decide) (by decide) rfl rfl hq72) ?_
          refine lk (dt := some 72) R10_18_N rfl rfl rfl (opv_move rfl rfl h6) ?_
          refine lk (dt := some 73) R10_18_N rfl rfl rfl (opv_move rfl rfl h9) ?_
          refine lk (dt := some 74) R10_18_N rfl rfl rfl (opv_add rfl rfl rfl rfl rfl) ?_
          refine lk (dt := some 5) R10_18_N rfl rfl rfl (opv_assign rfl rfl rfl) ?_
          refine lk (dt := some 6) R10_18_N rfl rfl rfl (opv_assign rfl rfl rfl) ?_
          refine aops_nil ?_
          refine ago_gotoE E10_65 (k' := [.code C10_67, .inScope C10_3]) rfl ?_
          refine ago_seqE E10_67 ?_
          refine ago_skipE E10_66 ?_
          exact L1 _ s_0 v70 (IntKind.i64.wrap (at_6 + r31.2.2.2.1)) aw71 h0 rfl rfl H
set_option maxHeartbeats 4000000 in
set_option maxRecDepth 100000 in
theorem S10_1s_ok (Q : (Value × Int × Int) → AW → Prop) (E : List PanicEntry → AW → Prop)  (nx1 : ByteArray → Value → Int → AW → Prop) (L1 : ∀ (ρ : Env) (s_0 : ByteArray) (out_5 : Value) (at_6 : Int) (aw : AW) (h0 : ρ 0 = .string s_0) (h5 : ρ 5 = out_5) (h6 : ρ 6 = .int .i64 at_6), nx1 s_0 out_5 at_6 aw → AGo prog 75 [.code C10_17, .inScope C10_3] ρ [] aw (RR prog f10 75 sh10 Q E)) (ρ : Env) (s_0 : ByteArray) (out_5 : Value) (at_6 : Int) (aw : AW) (h0 : ρ 0 = .string s_0) (h5 : ρ 5 = out_5) (h6 : ρ 6 = .int .i64 at_6) (H : S10_1s Q E  nx1 s_0 out_5 at_6 aw) :
    AGo prog 75 [.code C10_17, .inScope C10_3] ρ [] aw (RR prog f10 75 sh10 Q E) := by
  unfold S10_1s at H
  refine ago_seqE E10_17 ?_
  refine ago_seqE E10_18 ?_
  refine ago_regE E10_19 (l := [0, 1, 2, 3, 4, 5, 6, 7, 8, 9, 10]) rfl ?_
  refine lk (dt := some 15) R10_5_N rfl rfl rfl (opv_move rfl rfl h6) ?_
  refine lk (dt := some 16) R10_5_N rfl rfl rfl (opv_move rfl rfl h0) ?_
  refine lk (dt := some 17) R10_5_N rfl rfl rfl (opv_lenS rfl rfl rfl underlying9 rfl) ?_
  refine lk (dt := some 18) R10_5_N rfl rfl rfl (opv_lt rfl rfl rfl rfl rfl) ?_
  refine lk (dt := some 19) R10_5_N rfl rfl rfl (opv_move rfl rfl rfl) ?_
  rcases Bool.eq_false_or_eq_true (decide (at_6 < (s_0.size : Int))) with hb73 | hb73
  · replace H := cnd_t H hb73
    refine lk (dt := some 20) R10_5_N rfl rfl ⟨_, rfl, .inl ⟨_, rfl, gq hb73 rfl⟩⟩ (opv_move rfl rfl h0) ?_
    refine lk (dt := some 21) R10_5_N rfl rfl ⟨_, rfl, .inl ⟨_, rfl, gq hb73 rfl⟩⟩ (opv_move rfl rfl h6) ?_
    obtain ⟨c74, h075, hj76, hv77, H⟩ := H
    refine lk (dt := some 22) R10_5_N rfl rfl ⟨_, rfl, .inl ⟨_, rfl, gq hb73 rfl⟩⟩ (ov_chr rfl rfl rfl underlying9 rfl rfl h075 hj76 hv77) ?_
    refine lk_call (dt := some 23) R10_5_N rfl rfl ⟨_, rfl, .inl ⟨_, rfl, gq hb73 rfl⟩⟩ (opc_of rfl rfl is15 (ma_cons rfl (ma_cons rfl rfl))) H (fun _ _ h => ⟨rfl, h⟩) fun r78 aw79 H => ?_
    refine lk (dt := some 24) R10_5_N rfl rfl ⟨_, rfl, .inl ⟨_, rfl, gq hb73 rfl⟩⟩ (opv_ge rfl rfl rfl rfl rfl) ?_
    refine lk (dt := some 25) R10_5_N rfl rfl rfl (ov_pickT rfl rfl rfl rfl rfl hb73 rfl) ?_
    refine aops_nil ?_
    exact S10_2_ok Q E nx1 L1 _ s_0 out_5 at_6 (decide (0 ≤ r78)) aw79 h0 h5 h6 rfl H
  · replace H := cnd_f H hb73
    refine lk_skip (dt := some 20) R10_5_N rfl rfl ⟨_, rfl, .inl ⟨_, rfl, gq hb73 rfl⟩⟩ ?_
    refine lk_skip (dt := some 21) R10_5_N rfl rfl ⟨_, rfl, .inl ⟨_, rfl, gq hb73 rfl⟩⟩ ?_
    refine lk_skip (dt := some 22) R10_5_N rfl rfl ⟨_, rfl, .inl ⟨_, rfl, gq hb73 rfl⟩⟩ ?_
    refine lk_skip (dt := some 23) R10_5_N rfl rfl ⟨_, rfl, .inl ⟨_, rfl, gq hb73 rfl⟩⟩ ?_
    refine lk_skip (dt := some 24) R10_5_N rfl rfl ⟨_, rfl, .inl ⟨_, rfl, gq hb73 rfl⟩⟩ ?_
    refine lk (dt := some 25) R10_5_N rfl rfl rfl (ov_pickF rfl rfl rfl rfl rfl hb73 rfl) ?_
    refine aops_nil ?_
    exact S10_2_ok Q E nx1 L1 _ s_0 out_5 at_6 false aw h0 h5 h6 rfl H
theorem S10_1_ok (Q : (Value × Int × Int) → AW → Prop) (E : List PanicEntry → AW → Prop)  : ∀ (n : Nat) (ρ : Env) (s_0 : ByteArray) (out_5 : Value) (at_6 : Int) (aw : AW) (h0 : ρ 0 = .string s_0) (h5 : ρ 5 = out_5) (h6 : ρ 6 = .int .i64 at_6), S10_1 Q E  n s_0 out_5 at_6 aw →
    AGo prog 75 [.code C10_17, .inScope C10_3] ρ [] aw (RR prog f10 75 sh10 Q E)
  | 0, _, _, _, _, _, _, _, _ => fun H => H.elim
  | n + 1, ρ, s_0, out_5, at_6, aw, h0, h5, h6 => fun H => S10_1s_ok Q E  _ (S10_1_ok Q E  n) ρ s_0 out_5 at_6 aw h0 h5 h6 H
set_option maxHeartbeats 4000000 in
set_option maxRecDepth 100000 in
theorem S10_0_ok (Q : (Value × Int × Int) → AW → Prop) (E : List PanicEntry → AW → Prop)  (ρ : Env) (s_0 : ByteArray) (aw : AW) (h0 : ρ 0 = .string s_0) (H : S10_0 Q E  s_0 aw) :
    AGo prog 75 [.code C10_0] ρ [] aw (RR prog f10 75 sh10 Q E) := by
  unfold S10_0 at H
  refine ago_seqE E10_0 ?_
  refine ago_regE E10_1 (l := [0, 1, 2]) rfl ?_
  refine lk (dt := some 2) R10_0_N rfl rfl rfl (opv_assign rfl rfl rfl) ?_
  refine lk (dt := some 3) R10_0_N rfl rfl rfl (opv_assign rfl rfl rfl) ?_
  refine lk (dt := some 4) R10_0_N rfl rfl rfl (opv_assign rfl rfl rfl) ?_
  refine aops_nil ?_
  refine ago_scopeE E10_2 ?_
  refine ago_seqE E10_3 ?_
  refine ago_seqE E10_4 ?_
  refine ago_regE E10_5 (l := [0, 1, 2]) rfl ?_
  refine lk (dt := some 12) R10_1_N rfl rfl rfl (opv_move rfl rfl h0) ?_
  refine lk (dt := some 13) R10_1_N rfl rfl rfl (opv_lenS rfl rfl rfl underlying9 rfl) ?_
  refine lk (dt := some 14) R10_1_N rfl rfl rfl (opv_gt rfl rfl rfl rfl rfl) ?_
  refine aops_nil ?_
  refine ago_condE  E10_6 rfl rfl (fun hb80 => ?_) (fun hb80 => ?_)
  · replace H := cnd_t H hb80
    refine ago_seqE E10_7 ?_
    refine ago_regE E10_8 (l := [0, 1, 2]) rfl ?_
    refine lk (dt := some 2) R10_2_N rfl rfl rfl (opv_assign rfl rfl rfl) ?_
    refine lk (dt := some 3) R10_2_N rfl rfl rfl (opv_assign rfl rfl rfl) ?_
    refine lk (dt := some 4) R10_2_N rfl rfl rfl (opv_assign rfl rfl rfl) ?_
    refine aops_nil ?_
    exact ago_retE E10_9 (r := ((.slice none 0 0), 0, 2)) (ares_3 rfl (oneT rfl) (oneT rfl) (oneT rfl)) rfl H
  · replace H := cnd_f H hb80
    refine ago_skipE E10_10 ?_
    refine ago_seqE E10_11 ?_
    refine ago_regE E10_12 (l := [0]) rfl ?_
    refine lk (dt := some 5) R10_3_N rfl rfl rfl (opv_assign rfl rfl rfl) ?_
    refine aops_nil ?_
    refine ago_seqE E10_13 ?_
    refine ago_regE E10_14 (l := [0]) rfl ?_
    refine lk (dt := some 6) R10_4_N rfl rfl rfl (opv_assign rfl rfl rfl) ?_
    refine aops_nil ?_
    refine ago_seqE E10_15 ?_
    refine ago_labelE E10_16 ?_
    obtain ⟨n, H⟩ := H
    exact S10_1_ok Q E  n _ s_0 (.slice none 0 0) 0 aw h0 rfl rfl H
theorem F10_ok {Q : (Value × Int × Int) → AW → Prop} {E : List PanicEntry → AW → Prop} (s_0 : ByteArray) (aw : AW) (H : S10_0 Q E s_0 aw) : CallP prog 10 [.string s_0] aw sh10 Q E :=
  callP_of func10 C10_is rfl (Nat.le_of_ble_eq_true rfl) (S10_0_ok Q E _ s_0 aw rfl H)
end Go.Proofs.Tryd
