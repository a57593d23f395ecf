/- Printed by a program of the prover: what the Go functions of this seat do, in steps. -/
import Derived.Test.YtfoceofohlpafaaDoorMaF
set_option linter.unusedSectionVars false
set_option linter.unusedSimpArgs false
set_option linter.unusedVariables false
namespace Go.Proofs.Tryd
open Go Go.Am Go.RowKit
set_option maxHeartbeats 4000000
set_option maxRecDepth 100000
noncomputable section
variable [SymE]
def C5_0 := bodyOf f5
theorem C5_is : f5.body = some C5_0 := by kernel_rfl
def C5_1 := cl C5_0
def R5_0 := regOps C5_1
def C5_2 := cr C5_0
def C5_3 := cl C5_2
def C5_4 := cl C5_3
def R5_1 := regOps C5_4
def C5_5 := cr C5_3
def C5_6 := cl C5_5
def C5_7 := cl C5_6
def R5_2 := regOps C5_7
def C5_8 := cr C5_6
def C5_9 := cr C5_5
def C5_10 := cr C5_2
def C5_11 := cl C5_10
def R5_3 := regOps C5_11
def C5_12 := cr C5_10
def C5_13 := cl C5_12
def R5_4 := regOps C5_13
def C5_14 := cr C5_12
def C5_15 := cl C5_14
def C5_16 := cl C5_15
def R5_5 := regOps C5_16
def C5_17 := cr C5_15
def C5_18 := cl C5_17
def C5_19 := cl C5_18
def C5_20 := cl C5_19
def C5_21 := cl C5_20
def R5_6 := regOps C5_21
def C5_22 := cr C5_20
def C5_23 := cl C5_22
def C5_24 := cr C5_22
def C5_25 := cr C5_19
def C5_26 := cl C5_25
def C5_27 := cl C5_26
def C5_28 := cl C5_27
def R5_8 := regOps C5_28
def C5_29 := cr C5_27
def C5_30 := cl C5_29
def C5_31 := cl C5_30
def R5_9 := regOps C5_31
def C5_32 := cr C5_30
def C5_33 := cl C5_32
def R5_10 := regOps C5_33
def C5_34 := cr C5_32
def C5_35 := cr C5_29
def C5_36 := cl C5_35
def R5_11 := regOps C5_36
def C5_37 := cr C5_35
def C5_38 := cl C5_37
def R5_12 := regOps C5_38
def C5_39 := cr C5_37
def R5_13 := regOps C5_39
def C5_40 := cr C5_25
def R5_7 := regOps C5_40
def C5_41 := cr C5_14
def C5_42 := cl C5_41
def R5_14 := regOps C5_42
def C5_43 := cr C5_41
def C5_44 := cl C5_43
def R5_15 := regOps C5_44
def C5_45 := cr C5_43
def C5_46 := cl C5_45
def R5_16 := regOps C5_46
def C5_47 := cr C5_45
def C5_48 := cl C5_47
def C5_49 := cl C5_48
def R5_17 := regOps C5_49
def C5_50 := cr C5_48
def C5_51 := cl C5_50
def C5_52 := cl C5_51
def C5_53 := cl C5_52
def C5_54 := cl C5_53
def R5_18 := regOps C5_54
def C5_55 := cr C5_53
def C5_56 := cl C5_55
def C5_57 := cr C5_55
def C5_58 := cr C5_52
def C5_59 := cl C5_58
def C5_60 := cl C5_59
def R5_20 := regOps C5_60
def C5_61 := cr C5_58
def R5_19 := regOps C5_61
def C5_62 := cr C5_47
def C5_63 := cl C5_62
def C5_64 := cl C5_63
def R5_21 := regOps C5_64
def C5_65 := cr C5_63
def C5_66 := cl C5_65
def R5_22 := regOps C5_66
def C5_67 := cr C5_65
def C5_68 := cr C5_62
def C5_69 := cl C5_68
def R5_23 := regOps C5_69
def C5_70 := cr C5_68
def C5_71 := cl C5_70
def C5_72 := cl C5_71
def R5_24 := regOps C5_72
def C5_73 := cr C5_71
def C5_74 := cl C5_73
def R5_25 := regOps C5_74
def C5_75 := cr C5_73
def C5_76 := cr C5_70
def C5_77 := cl C5_76
def C5_78 := cl C5_77
def R5_26 := regOps C5_78
def C5_79 := cr C5_77
def C5_80 := cl C5_79
def C5_81 := cl C5_80
def R5_27 := regOps C5_81
def C5_82 := cr C5_80
def C5_83 := cr C5_79
def C5_84 := cr C5_76
def C5_85 := cl C5_84
def C5_86 := cl C5_85
def R5_28 := regOps C5_86
def C5_87 := cr C5_85
def C5_88 := cl C5_87
def C5_89 := cl C5_88
def C5_90 := cl C5_89
def C5_91 := cl C5_90
def R5_29 := regOps C5_91
def C5_92 := cr C5_90
def C5_93 := cl C5_92
def C5_94 := cr C5_92
def C5_95 := cr C5_89
def C5_96 := cl C5_95
def C5_97 := cl C5_96
def C5_98 := cl C5_97
def R5_31 := regOps C5_98
def C5_99 := cr C5_97
def C5_100 := cl C5_99
def C5_101 := cl C5_100
def R5_32 := regOps C5_101
def C5_102 := cr C5_100
def C5_103 := cr C5_99
def C5_104 := cr C5_95
def R5_30 := regOps C5_104
def C5_105 := cr C5_84
def C5_106 := cl C5_105
def R5_33 := regOps C5_106
def C5_107 := cr C5_105
theorem R5_0_N : dstsOk 166 R5_0 = true := by decide +kernel
theorem R5_1_N : dstsOk 166 R5_1 = true := by decide +kernel
theorem R5_2_N : dstsOk 166 R5_2 = true := by decide +kernel
theorem R5_3_N : dstsOk 166 R5_3 = true := by decide +kernel
theorem R5_4_N : dstsOk 166 R5_4 = true := by decide +kernel
theorem R5_5_N : dstsOk 166 R5_5 = true := by decide +kernel
theorem R5_6_N : dstsOk 166 R5_6 = true := by decide +kernel
theorem R5_8_N : dstsOk 166 R5_8 = true := by decide +kernel
theorem R5_9_N : dstsOk 166 R5_9 = true := by decide +kernel
theorem R5_10_N : dstsOk 166 R5_10 = true := by decide +kernel
theorem R5_11_N : dstsOk 166 R5_11 = true := by decide +kernel
theorem R5_12_N : dstsOk 166 R5_12 = true := by decide +kernel
theorem R5_13_N : dstsOk 166 R5_13 = true := by decide +kernel
theorem R5_7_N : dstsOk 166 R5_7 = true := by decide +kernel
theorem R5_14_N : dstsOk 166 R5_14 = true := by decide +kernel
theorem R5_15_N : dstsOk 166 R5_15 = true := by decide +kernel
theorem R5_16_N : dstsOk 166 R5_16 = true := by decide +kernel
theorem R5_17_N : dstsOk 166 R5_17 = true := by decide +kernel
theorem R5_18_N : dstsOk 166 R5_18 = true := by decide +kernel
theorem R5_20_N : dstsOk 166 R5_20 = true := by decide +kernel
theorem R5_19_N : dstsOk 166 R5_19 = true := by decide +kernel
theorem R5_21_N : dstsOk 166 R5_21 = true := by decide +kernel
theorem R5_22_N : dstsOk 166 R5_22 = true := by decide +kernel
theorem R5_23_N : dstsOk 166 R5_23 = true := by decide +kernel
theorem R5_24_N : dstsOk 166 R5_24 = true := by decide +kernel
theorem R5_25_N : dstsOk 166 R5_25 = true := by decide +kernel
theorem R5_26_N : dstsOk 166 R5_26 = true := by decide +kernel
theorem R5_27_N : dstsOk 166 R5_27 = true := by decide +kernel
theorem R5_28_N : dstsOk 166 R5_28 = true := by decide +kernel
theorem R5_29_N : dstsOk 166 R5_29 = true := by decide +kernel
theorem R5_31_N : dstsOk 166 R5_31 = true := by decide +kernel
theorem R5_31_O : linOk R5_31 [0, 1, 2, 3, 4, 5, 6, 7, 8, 9, 10, 11, 12, 13, 14, 15, 16, 17, 18, 19, 20, 21, 22, 23] [(24, [13, 14, 15, 16, 17, 18], [25, 26])] = true := by decide +kernel
theorem R5_32_N : dstsOk 166 R5_32 = true := by decide +kernel
theorem R5_30_N : dstsOk 166 R5_30 = true := by decide +kernel
theorem R5_33_N : dstsOk 166 R5_33 = true := by decide +kernel
def S5_7 (Q : Bool → AW → Prop) (E : List PanicEntry → AW → Prop) (nx1 : Value → ByteArray → Value → Int → Int → AW → Prop) (l_0 : Value) (s_1 : ByteArray) (ins_5 : Value) (n_6 : Int) (i_7 : Int) (g_8 : Int) (aw : AW) : Prop :=
  alcS aw [.int .u8 5, .int .i64 4, .int .i64 0, .string (⟨#[]⟩ : ByteArray), .int .u8 1, .int .i64 0, .int .i64 0, .string s_1, .int .u8 7, .int .i64 0, .int .i64 0, .string (⟨#[]⟩ : ByteArray), .int .u8 19, .int .i64 0, .int .i64 0, .string (⟨#[]⟩ : ByteArray)] 34 4 4 fun p1 aw2 =>
  app aw2 34 4 40 ins_5 p1 fun v5 aw6 =>
  ixS l_0 i_7 2 fun p8 =>
  fldA p8 1 fun p17 =>
  ldI .i64 aw6 p17 fun x25 =>
  alcS aw6 [.int .u8 5, .int .i64 g_8, .int .i64 0, .string (⟨#[]⟩ : ByteArray), .int .u8 0, .int .i64 x25, .int .i64 0, .string (⟨#[]⟩ : ByteArray), .int .u8 7, .int .i64 0, .int .i64 0, .string (⟨#[]⟩ : ByteArray), .int .u8 19, .int .i64 0, .int .i64 0, .string (⟨#[]⟩ : ByteArray)] 34 4 4 fun p27 aw28 =>
  app aw28 34 4 40 v5 p27 fun v31 aw32 =>
  nx1 l_0 s_1 v31 (IntKind.i64.wrap (n_6 + 1)) (IntKind.i64.wrap (i_7 + 1)) aw32
def S5_6s (Q : Bool → AW → Prop) (E : List PanicEntry → AW → Prop)  (nx6 : Value → Int → Value → Int → Int → AW → Prop) (l_0 : Value) (n_6 : Int) (r_9 : Value) (k_13 : Int) (i_14 : Int) (aw : AW) : Prop :=
  cnd (decide (i_14 < k_13)) (fldA r_9 4 fun p35 =>
  ldV aw p35 fun x43 =>
  ixS x43 i_14 2 fun p45 =>
  fldA p45 0 fun p54 =>
  ldB aw p54 fun x62 =>
  ixS l_0 i_14 2 fun p64 =>
  fldA p64 0 fun p73 =>
  ldB aw p73 fun x81 =>
  cnd (!(x62 == x81)) (Q false aw) (fldA r_9 4 fun p85 =>
  ldV aw p85 fun x93 =>
  ixS x93 i_14 2 fun p95 =>
  fldA p95 1 fun p104 =>
  ldI .i64 aw p104 fun x112 =>
  ixS l_0 i_14 2 fun p114 =>
  fldA p114 1 fun p123 =>
  ldI .i64 aw p123 fun x131 =>
  CallP prog 12 [.int .i64 x131] aw sh12 (fun r133 aw134 =>
  again1 aw134 p85 (x93) ∧ again1 aw134 p104 (.int .i64 x112) ∧ cnd (!decide (x112 = r133)) (Q false aw134) (nx6 l_0 n_6 r_9 k_13 (IntKind.i64.wrap (i_14 + 1)) aw134)) E)) (cnd (decide (10 < n_6)) (Q true aw) (fldA r_9 0 fun p137 =>
  ldI .i64 aw p137 fun x145 =>
  cnd (decide (x145 = 0)) (fldA r_9 5 fun p148 =>
  ldI .i64 aw p148 fun x156 =>
  Q (decide (x156 = (IntKind.i64.wrap (100 - (IntKind.i64.wrap (2 * n_6)))))) aw) (Q false aw)))
def S5_6 (Q : Bool → AW → Prop) (E : List PanicEntry → AW → Prop)  : Nat → Value → Int → Value → Int → Int → AW → Prop
  | 0 => fun _ _ _ _ _ _ => False
  | n + 1 => S5_6s Q E  (S5_6 Q E  n)
def S5_5 (Q : Bool → AW → Prop) (E : List PanicEntry → AW → Prop)  (l_0 : Value) (n_6 : Int) (r_9 : Value) (out_11 : ByteArray) (k_13 : Int) (aw : AW) : Prop :=
  fldA r_9 3 fun p158 =>
  ldS aw p158 fun x166 =>
  cnd (!decide (x166 = out_11)) (Q false aw) (fldA r_9 4 fun p170 =>
  ldV aw p170 fun x178 =>
  slen x178 fun n180 =>
  cnd (!decide (n180 = k_13)) (Q false aw) (fldA r_9 0 fun p188 =>
  ldI .i64 aw p188 fun x196 =>
  cnd (!((decide (x196 = 9)) == (decide (10 < n_6)))) (Q false aw) (cnd (decide (10 < n_6)) (fldA r_9 2 fun p201 =>
  ldS aw p201 fun x209 =>
  cnd (!decide (x209 = (⟨#[109, 111, 118, 101, 115]⟩ : ByteArray))) (Q false aw) (∃ n, S5_6 Q E  n l_0 n_6 r_9 k_13 0 aw)) (∃ n, S5_6 Q E  n l_0 n_6 r_9 k_13 0 aw))))
def S5_4 (Q : Bool → AW → Prop) (E : List PanicEntry → AW → Prop)  (l_0 : Value) (n_6 : Int) (r_9 : Value) (out_11 : ByteArray) (aw : AW) : Prop :=
  cnd (decide (10 < n_6)) (S5_5 Q E  l_0 n_6 r_9 out_11 10 aw) (S5_5 Q E  l_0 n_6 r_9 out_11 n_6 aw)
def S5_3s (Q : Bool → AW → Prop) (E : List PanicEntry → AW → Prop)  (nx3 : Value → ByteArray → Int → Value → ByteArray → Int → AW → Prop) (l_0 : Value) (s_1 : ByteArray) (n_6 : Int) (r_9 : Value) (out_11 : ByteArray) (i_12 : Int) (aw : AW) : Prop :=
  cnd (decide (i_12 < n_6)) (cnd (decide (i_12 < 11)) (out_11.size + s_1.size ≤ 2 ^ 62 ∧ nx3 l_0 s_1 n_6 r_9 (out_11 ++ s_1) (IntKind.i64.wrap (i_12 + 1)) aw) (cnd (decide (50 < (out_11.size : Int))) (cutS out_11 0 50 fun s218 =>
  S5_4 Q E  l_0 n_6 r_9 s218 aw) (S5_4 Q E  l_0 n_6 r_9 out_11 aw))) (cnd (decide (50 < (out_11.size : Int))) (cutS out_11 0 50 fun s225 =>
  S5_4 Q E  l_0 n_6 r_9 s225 aw) (S5_4 Q E  l_0 n_6 r_9 out_11 aw))
def S5_3 (Q : Bool → AW → Prop) (E : List PanicEntry → AW → Prop)  : Nat → Value → ByteArray → Int → Value → ByteArray → Int → AW → Prop
  | 0 => fun _ _ _ _ _ _ _ => False
  | n + 1 => S5_3s Q E  (S5_3 Q E  n)
def S5_2 (Q : Bool → AW → Prop) (E : List PanicEntry → AW → Prop) (nx1 : Value → ByteArray → Value → Int → Int → AW → Prop) (l_0 : Value) (s_1 : ByteArray) (ins_5 : Value) (n_6 : Int) (i_7 : Int) (t_30 : Bool) (aw : AW) : Prop :=
  cnd t_30 (ixS l_0 i_7 2 fun p231 =>
  fldA p231 0 fun p240 =>
  ldB aw p240 fun x248 =>
  cnd x248 (S5_7 Q E nx1 l_0 s_1 ins_5 n_6 i_7 7 aw) (S5_7 Q E nx1 l_0 s_1 ins_5 n_6 i_7 2 aw)) (alcS aw [.int .u8 0, .int .i64 0, .int .i64 0, .string (⟨#[]⟩ : ByteArray), .int .u8 8, .int .i64 0, .int .i64 0, .string (⟨#[]⟩ : ByteArray)] 34 4 2 fun p251 aw252 =>
  app aw252 34 4 40 ins_5 p251 fun v255 aw256 =>
  CallP prog 13 [v255, .int .i64 100] aw256 sh13 (fun r258 aw259 =>
  alc aw259 [.int .i64 0, .int .u64 0, .string (⟨#[]⟩ : ByteArray), .string (⟨#[]⟩ : ByteArray), (.slice none 0 0), .int .i64 0] 29 0 fun p260 aw261 =>
  st aw261 p260 [.int .i64 r258.1, .int .u64 r258.2.1, .string r258.2.2.1, .string r258.2.2.2.1, r258.2.2.2.2.1, .int .i64 r258.2.2.2.2.2.1] fun aw264 =>
  ∃ n, S5_3 Q E  n l_0 s_1 n_6 p260 (⟨#[]⟩ : ByteArray) 0 aw264) E)
def S5_1s (Q : Bool → AW → Prop) (E : List PanicEntry → AW → Prop)  (nx1 : Value → ByteArray → Value → Int → Int → AW → Prop) (l_0 : Value) (s_1 : ByteArray) (ins_5 : Value) (n_6 : Int) (i_7 : Int) (aw : AW) : Prop :=
  slen l_0 fun n271 =>
  cnd (decide (i_7 < n271)) (S5_2 Q E nx1 l_0 s_1 ins_5 n_6 i_7 (decide (i_7 < 14)) aw) (S5_2 Q E nx1 l_0 s_1 ins_5 n_6 i_7 false aw)
def S5_1 (Q : Bool → AW → Prop) (E : List PanicEntry → AW → Prop)  : Nat → Value → ByteArray → Value → Int → Int → AW → Prop
  | 0 => fun _ _ _ _ _ _ => False
  | n + 1 => S5_1s Q E  (S5_1 Q E  n)
def S5_0 (Q : Bool → AW → Prop) (E : List PanicEntry → AW → Prop)  (l_0 : Value) (s_1 : ByteArray) (aw : AW) : Prop :=
  CallP prog 11 [] aw sh11 (fun r278 aw279 =>
  cnd (!r278) (CallP prog 11 [] aw279 sh11 (fun r282 aw283 =>
  Q r282 aw283) E) (cnd (decide (200 < (s_1.size : Int))) (CallP prog 11 [] aw279 sh11 (fun r285 aw286 =>
  Q r285 aw286) E) (∃ n, S5_1 Q E  n l_0 s_1 (.slice none 0 0) 0 0 aw279))) E
theorem S5_7_ok (Q : Bool → AW → Prop) (E : List PanicEntry → AW → Prop) (nx1 : Value → ByteArray → Value → Int → Int → AW → Prop) (L1 : ∀ (ρ : Env) (l_0 : Value) (s_1 : ByteArray) (ins_5 : Value) (n_6 : Int) (i_7 : Int) (aw : AW) (h0 : ρ 0 = l_0) (h1 : ρ 1 = .string s_1) (h5 : ρ 5 = ins_5) (h6 : ρ 6 = .int .i64 n_6) (h7 : ρ 7 = .int .i64 i_7), nx1 l_0 s_1 ins_5 n_6 i_7 aw → AGo prog 166 [.code C5_19, .inLoop C5_19, .inBlock 0, .code C5_41] ρ [] aw (RR prog f5 166 sh5 Q E)) (ρ : Env) (l_0 : Value) (s_1 : ByteArray) (ins_5 : Value) (n_6 : Int) (i_7 : Int) (g_8 : Int) (aw : AW) (h0 : ρ 0 = l_0) (h1 : ρ 1 = .string s_1) (h5 : ρ 5 = ins_5) (h6 : ρ 6 = .int .i64 n_6) (h7 : ρ 7 = .int .i64 i_7) (h8 : ρ 8 = .int .i64 g_8) (H : S5_7 Q E nx1 l_0 s_1 ins_5 n_6 i_7 g_8 aw) :
    AGo prog 166 [.code C5_35, .inBlock 1, .code C5_40, .inLoop C5_19, .inBlock 0, .code C5_41] ρ [] aw (RR prog f5 166 sh5 Q E) := by
  unfold S5_7 at H
  refine ago_seqE (rfl : C5_35 = .seq C5_36 C5_37) ?_
  refine ago_regE (rfl : C5_36 = .region 11 R5_11 false) (l := [0, 1, 2, 3, 4, 5, 6, 7, 8]) rfl ?_
  refine lj 38 R5_11_N rfl rfl rfl (opv_move rfl rfl h5) ?_
  refine lj 39 R5_11_N rfl rfl rfl (ov_bld (r := [.int .u8 5, .int .i64 4, .int .i64 0, .string (⟨#[]⟩ : ByteArray)]) rfl rfl bo34 (mp_cons rfl (mp_cons rfl rfl)) (fillP rfl rfl rfl rfl (fillP rfl rfl rfl rfl (fillN rfl)))) ?_
  refine lj 40 R5_11_N rfl rfl rfl (opv_move rfl rfl h1) ?_
  refine lj 41 R5_11_N rfl rfl rfl (ov_bld (r := [.int .u8 1, .int .i64 0, .int .i64 0, .string s_1]) rfl rfl bo34 (mp_cons rfl (mp_cons rfl rfl)) (fillP rfl rfl rfl rfl (fillP rfl rfl rfl rfl (fillN rfl)))) ?_
  refine lj 42 R5_11_N rfl rfl rfl (ov_bld (r := [.int .u8 7, .int .i64 0, .int .i64 0, .string (⟨#[]⟩ : ByteArray)]) rfl rfl bo34 (mp_cons rfl rfl) (fillP rfl rfl rfl rfl (fillN rfl))) ?_
  refine lj 43 R5_11_N rfl rfl rfl (ov_bld (r := [.int .u8 19, .int .i64 0, .int .i64 0, .string (⟨#[]⟩ : ByteArray)]) rfl rfl bo34 (mp_cons rfl rfl) (fillP rfl rfl rfl rfl (fillN rfl))) ?_
  obtain ⟨p1, aw2, hp3, ha4, H⟩ := H
  refine lj 44 R5_11_N rfl rfl rfl (ov_bsA (r := [.int .u8 5, .int .i64 4, .int .i64 0, .string (⟨#[]⟩ : ByteArray), .int .u8 1, .int .i64 0, .int .i64 0, .string s_1, .int .u8 7, .int .i64 0, .int .i64 0, .string (⟨#[]⟩ : ByteArray), .int .u8 19, .int .i64 0, .int .i64 0, .string (⟨#[]⟩ : ByteArray)]) (vs := [.agg #[.int .u8 5, .int .i64 4, .int .i64 0, .string (⟨#[]⟩ : ByteArray)], .agg #[.int .u8 1, .int .i64 0, .int .i64 0, .string s_1], .agg #[.int .u8 7, .int .i64 0, .int .i64 0, .string (⟨#[]⟩ : ByteArray)], .agg #[.int .u8 19, .int .i64 0, .int .i64 0, .string (⟨#[]⟩ : ByteArray)]]) rfl rfl underlying35 sz34 z34 rfl rfl rfl rfl rfl (mp_cons rfl (mp_cons rfl (mp_cons rfl (mp_cons rfl rfl)))) (.cons (v := .agg #[.int .u8 5, .int .i64 4, .int .i64 0, .string (⟨#[]⟩ : ByteArray)]) (xs := [.int .u8 5, .int .i64 4, .int .i64 0, .string (⟨#[]⟩ : ByteArray)]) (r := [.int .u8 1, .int .i64 0, .int .i64 0, .string s_1, .int .u8 7, .int .i64 0, .int .i64 0, .string (⟨#[]⟩ : ByteArray), .int .u8 19, .int .i64 0, .int .i64 0, .string (⟨#[]⟩ : ByteArray)]) rfl rfl (.cons (v := .agg #[.int .u8 1, .int .i64 0, .int .i64 0, .string s_1]) (xs := [.int .u8 1, .int .i64 0, .int .i64 0, .string s_1]) (r := [.int .u8 7, .int .i64 0, .int .i64 0, .string (⟨#[]⟩ : ByteArray), .int .u8 19, .int .i64 0, .int .i64 0, .string (⟨#[]⟩ : ByteArray)]) rfl rfl (.cons (v := .agg #[.int .u8 7, .int .i64 0, .int .i64 0, .string (⟨#[]⟩ : ByteArray)]) (xs := [.int .u8 7, .int .i64 0, .int .i64 0, .string (⟨#[]⟩ : ByteArray)]) (r := [.int .u8 19, .int .i64 0, .int .i64 0, .string (⟨#[]⟩ : ByteArray)]) rfl rfl (.cons (v := .agg #[.int .u8 19, .int .i64 0, .int .i64 0, .string (⟨#[]⟩ : ByteArray)]) (xs := [.int .u8 19, .int .i64 0, .int .i64 0, .string (⟨#[]⟩ : ByteArray)]) (r := []) rfl rfl .nil)))) hp3 ha4) ?_
  obtain ⟨v5, aw6, hq7, H⟩ := H
  refine lj 45 R5_11_N rfl rfl rfl (ov_app rfl rfl rfl rfl underlying35 sz34 by34 underlying35 rfl z34 rfl (by decide) (by decide) rfl rfl hq7) ?_
  refine lj 5 R5_11_N rfl rfl rfl (opv_assign rfl rfl rfl) ?_
  refine aops_nil ?_
  refine ago_seqE (rfl : C5_37 = .seq C5_38 C5_39) ?_
  refine ago_regE (rfl : C5_38 = .region 12 R5_12 false) (l := [0, 1, 2, 3, 4, 5, 6, 7, 8, 9, 10, 11, 12, 13]) rfl ?_
  refine lj 46 R5_12_N rfl rfl rfl (opv_move rfl rfl rfl) ?_
  refine lj 47 R5_12_N rfl rfl rfl (opv_move rfl rfl h8) ?_
  refine lj 48 R5_12_N rfl rfl rfl (ov_bld (r := [.int .u8 5, .int .i64 g_8, .int .i64 0, .string (⟨#[]⟩ : ByteArray)]) rfl rfl bo34 (mp_cons rfl (mp_cons rfl rfl)) (fillP rfl rfl rfl rfl (fillP rfl rfl rfl rfl (fillN rfl)))) ?_
  refine lj 49 R5_12_N rfl rfl rfl (opv_move rfl rfl h0) ?_
  refine lj 50 R5_12_N rfl rfl rfl (opv_move rfl rfl h7) ?_
  obtain ⟨b9, i10, l11, c12, p8, hp13, h014, hj15, hv16, H⟩ := H
  refine lj 51 R5_12_N rfl rfl rfl (ov_ixS rfl rfl rfl underlying27 sz48 rfl rfl hp13 h014 hj15 hv16) ?_
  obtain ⟨b18, i19, p17, hp20, hv21, H⟩ := H
  refine lj 52 R5_12_N rfl rfl rfl (ov_fldA rfl rfl underlying48 rfl sz2 (by decide) rfl hp20 rfl hv21) ?_
  obtain ⟨b22, i23, x25, hp24, hg26, H⟩ := H
  refine lj 53 R5_12_N rfl rfl rfl (ov_ldI rfl underlying2 rfl rfl hp24 hg26) ?_
  refine lj 54 R5_12_N rfl rfl rfl (ov_bld (r := [.int .u8 0, .int .i64 x25, .int .i64 0, .string (⟨#[]⟩ : ByteArray)]) rfl rfl bo34 (mp_cons rfl rfl) (fillP rfl rfl rfl rfl (fillN rfl))) ?_
  refine lj 55 R5_12_N rfl rfl rfl (ov_bld (r := [.int .u8 7, .int .i64 0, .int .i64 0, .string (⟨#[]⟩ : ByteArray)]) rfl rfl bo34 (mp_cons rfl rfl) (fillP rfl rfl rfl rfl (fillN rfl))) ?_
  refine lj 56 R5_12_N rfl rfl rfl (ov_bld (r := [.int .u8 19, .int .i64 0, .int .i64 0, .string (⟨#[]⟩ : ByteArray)]) rfl rfl bo34 (mp_cons rfl rfl) (fillP rfl rfl rfl rfl (fillN rfl))) ?_
  obtain ⟨p27, aw28, hp29, ha30, H⟩ := H
  refine lj 57 R5_12_N rfl rfl rfl (ov_bsA (r := [.int .u8 5, .int .i64 g_8, .int .i64 0, .string (⟨#[]⟩ : ByteArray), .int .u8 0, .int .i64 x25, .int .i64 0, .string (⟨#[]⟩ : ByteArray), .int .u8 7, .int .i64 0, .int .i64 0, .string (⟨#[]⟩ : ByteArray), .int .u8 19, .int .i64 0, .int .i64 0, .string (⟨#[]⟩ : ByteArray)]) (vs := [.agg #[.int .u8 5, .int .i64 g_8, .int .i64 0, .string (⟨#[]⟩ : ByteArray)], .agg #[.int .u8 0, .int .i64 x25, .int .i64 0, .string (⟨#[]⟩ : ByteArray)], .agg #[.int .u8 7, .int .i64 0, .int .i64 0, .string (⟨#[]⟩ : ByteArray)], .agg #[.int .u8 19, .int .i64 0, .int .i64 0, .string (⟨#[]⟩ : ByteArray)]]) rfl rfl underlying35 sz34 z34 rfl rfl rfl rfl rfl (mp_cons rfl (mp_cons rfl (mp_cons rfl (mp_cons rfl rfl)))) (.cons (v := .agg #[.int .u8 5, .int .i64 g_8, .int .i64 0, .string (⟨#[]⟩ : ByteArray)]) (xs := [.int .u8 5, .int .i64 g_8, .int .i64 0, .string (⟨#[]⟩ : ByteArray)]) (r := [.int .u8 0, .int .i64 x25, .int .i64 0, .string (⟨#[]⟩ : ByteArray), .int .u8 7, .int .i64 0, .int .i64 0, .string (⟨#[]⟩ : ByteArray), .int .u8 19, .int .i64 0, .int .i64 0, .string (⟨#[]⟩ : ByteArray)]) rfl rfl (.cons (v := .agg #[.int .u8 0, .int .i64 x25, .int .i64 0, .string (⟨#[]⟩ : ByteArray)]) (xs := [.int .u8 0, .int .i64 x25, .int .i64 0, .string (⟨#[]⟩ : ByteArray)]) (r := [.int .u8 7, .int .i64 0, .int .i64 0, .string (⟨#[]⟩ : ByteArray), .int .u8 19, .int .i64 0, .int .i64 0, .string (⟨#[]⟩ : ByteArray)]) rfl rfl (.cons (v := .agg #[.int .u8 7, .int .i64 0, .int .i64 0, .string (⟨#[]⟩ : ByteArray)]) (xs := [.int .u8 7, .int .i64 0, .int .i64 0, .string (⟨#[]⟩ : ByteArray)]) (r := [.int .u8 19, .int .i64 0, .int .i64 0, .string (⟨#[]⟩ : ByteArray)]) rfl rfl (.cons (v := .agg #[.int .u8 19, .int .i64 0, .int .i64 0, .string (⟨#[]⟩ : ByteArray)]) (xs := [.int .u8 19, .int .i64 0, .int .i64 0, .string (⟨#[]⟩ : ByteArray)]) (r := []) rfl rfl .nil)))) hp29 ha30) ?_
  obtain ⟨v31, aw32, hq33, H⟩ := H
  refine lj 58 R5_12_N rfl rfl rfl (ov_app rfl rfl rfl rfl underlying35 sz34 by34 underlying35 rfl z34 rfl (by decide) (by decide) rfl rfl hq33) ?_
  refine lj 5 R5_12_N rfl rfl rfl (opv_assign rfl rfl rfl) ?_
  refine aops_nil ?_
  refine ago_cut (fun ρ => ρ 0 = l_0 ∧ ρ 1 = .string s_1 ∧ ρ 5 = v31 ∧ ρ 6 = .int .i64 n_6 ∧ ρ 7 = .int .i64 i_7 ∧ True) ⟨h0, h1, rfl, h6, h7, trivial⟩ (fun ρ ⟨h0, h1, h5, h6, h7, _⟩ => ?_)
  refine ago_regE (rfl : C5_39 = .region 13 R5_13 false) (l := [0, 1, 2]) rfl ?_
  refine lj 59 R5_13_N rfl rfl rfl (opv_move rfl rfl h6) ?_
  refine lj 60 R5_13_N rfl rfl rfl (opv_add rfl rfl rfl rfl rfl) ?_
  refine lj 6 R5_13_N rfl rfl rfl (opv_assign rfl rfl rfl) ?_
  refine aops_nil ?_
  refine ago_inBlock ?_
  refine ago_regE (rfl : C5_40 = .region 7 R5_7 false) (l := [0, 1, 2]) rfl ?_
  refine lj 31 R5_7_N rfl rfl rfl (opv_move rfl rfl h7) ?_
  refine lj 32 R5_7_N rfl rfl rfl (opv_add rfl rfl rfl rfl rfl) ?_
  refine lj 7 R5_7_N rfl rfl rfl (opv_assign rfl rfl rfl) ?_
  refine aops_nil ?_
  refine ago_inLoop ?_
  exact L1 _ l_0 s_1 v31 (IntKind.i64.wrap (n_6 + 1)) (IntKind.i64.wrap (i_7 + 1)) aw32 h0 h1 h5 rfl rfl H
theorem S5_6s_ok (Q : Bool → AW → Prop) (E : List PanicEntry → AW → Prop)  (nx6 : Value → Int → Value → Int → Int → AW → Prop) (L6 : ∀ (ρ : Env) (l_0 : Value) (n_6 : Int) (r_9 : Value) (k_13 : Int) (i_14 : Int) (aw : AW) (h0 : ρ 0 = l_0) (h6 : ρ 6 = .int .i64 n_6) (h9 : ρ 9 = r_9) (h13 : ρ 13 = .int .i64 k_13) (h14 : ρ 14 = .int .i64 i_14), nx6 l_0 n_6 r_9 k_13 i_14 aw → AGo prog 166 [.code C5_89, .inLoop C5_89, .inBlock 4, .code C5_105] ρ [] aw (RR prog f5 166 sh5 Q E)) (ρ : Env) (l_0 : Value) (n_6 : Int) (r_9 : Value) (k_13 : Int) (i_14 : Int) (aw : AW) (h0 : ρ 0 = l_0) (h6 : ρ 6 = .int .i64 n_6) (h9 : ρ 9 = r_9) (h13 : ρ 13 = .int .i64 k_13) (h14 : ρ 14 = .int .i64 i_14) (H : S5_6s Q E  nx6 l_0 n_6 r_9 k_13 i_14 aw) :
    AGo prog 166 [.code C5_89, .inLoop C5_89, .inBlock 4, .code C5_105] ρ [] aw (RR prog f5 166 sh5 Q E) := by
  unfold S5_6s at H
  refine ago_seqE (rfl : C5_89 = .seq C5_90 C5_95) ?_
  refine ago_seqE (rfl : C5_90 = .seq C5_91 C5_92) ?_
  refine ago_regE (rfl : C5_91 = .region 29 R5_29 false) (l := [0, 1, 2]) rfl ?_
  refine lj 119 R5_29_N rfl rfl rfl (opv_move rfl rfl h14) ?_
  refine lj 120 R5_29_N rfl rfl rfl (opv_move rfl rfl h13) ?_
  refine lj 121 R5_29_N rfl rfl rfl (opv_lt rfl rfl rfl rfl rfl) ?_
  refine aops_nil ?_
  refine ago_condE  (rfl : C5_92 = .cond (.tmp 121) C5_93 C5_94) rfl rfl (fun hb34 => ?_) (fun hb34 => ?_)
  · replace H := cnd_t H hb34
    refine ago_skipE (rfl : C5_93 = .skip) ?_
    refine ago_seqE (rfl : C5_95 = .seq C5_96 C5_104) ?_
    refine ago_blockE (rfl : C5_96 = .block 5 C5_97) ?_
    refine ago_seqE (rfl : C5_97 = .seq C5_98 C5_99) ?_
    obtain ⟨b36, i37, p35, hp38, hv39, H⟩ := H
    obtain ⟨b40, i41, x43, hp42, hg44, H⟩ := H
    obtain ⟨b46, i47, l48, c49, p45, hp50, h051, hj52, hv53, H⟩ := H
    obtain ⟨b55, i56, p54, hp57, hv58, H⟩ := H
    obtain ⟨b59, i60, x62, hp61, hg63, H⟩ := H
    obtain ⟨b65, i66, l67, c68, p64, hp69, h070, hj71, hv72, H⟩ := H
    obtain ⟨b74, i75, p73, hp76, hv77, H⟩ := H
    obtain ⟨b78, i79, x81, hp80, hg82, H⟩ := H
    rcases Bool.eq_false_or_eq_true (!(x62 == x81)) with hb83 | hb83
    · replace H := cnd_t H hb83
      refine ago_drawH (p := [0, 1, 2, 3, 4, 5, 6, 7, 8, 9, 10, 11, 12, 13, 14, 15, 16, 17, 18, 19, 20, 21, 22, 23]) (tl := [(24, [13, 14, 15, 16, 17, 18], [25, 26])]) (hv := [(0, p35), (1, x43), (2, Value.int .i64 i_14), (3, p45), (4, p54), (5, Value.bool x62), (6, l_0), (7, Value.int .i64 i_14), (8, p64), (9, p73), (10, Value.bool x81), (11, Value.bool (!(x62 == x81))), (12, Value.bool (!(x62 == x81))), (13, undef), (14, undef), (15, undef), (16, undef), (17, undef), (18, undef), (19, undef), (20, undef), (21, undef), (22, undef), (23, undef)]) (rfl : C5_98 = .region 31 R5_31 true) mixed R5_31_N R5_31_O rfl (pv_cons rfl (pv_cons rfl (pv_cons rfl (pv_cons rfl (pv_cons rfl (pv_cons rfl (pv_cons rfl (pv_cons rfl (pv_cons rfl (pv_cons rfl (pv_cons rfl (pv_cons rfl (pv_cons rfl (pv_cons rfl (pv_cons rfl (pv_cons rfl (pv_cons rfl (pv_cons rfl (pv_cons rfl (pv_cons rfl (pv_cons rfl (pv_cons rfl (pv_cons rfl (pv_cons rfl (pv_nil _)))))))))))))))))))))))))
        (fc 124 p35 (hd_v rfl fun ρ hρ => ⟨rfl, ov_fldA rfl rfl underlying29 rfl sz27 (by decide) ((hρ 9 (lmem rfl)).trans h9) hp38 rfl hv39⟩) rfl rfl
        (fc 125 x43 (hd_v rfl fun ρ hρ => ⟨rfl, ov_ldV rfl underlying27 rfl rfl ((hρ 124 (lmem rfl)).trans rfl) hp42 hg44⟩) rfl rfl
        (fc 126 (.int .i64 i_14) (hd_v rfl fun ρ hρ => ⟨rfl, opv_move rfl rfl ((hρ 14 (lmem rfl)).trans h14)⟩) rfl rfl
        (fc 127 p45 (hd_v rfl fun ρ hρ => ⟨rfl, ov_ixS rfl rfl rfl underlying27 sz48 ((hρ 125 (lmem rfl)).trans rfl) ((hρ 126 (lmem rfl)).trans rfl) hp50 h051 hj52 hv53⟩) rfl rfl
        (fc 128 p54 (hd_v rfl fun ρ hρ => ⟨rfl, ov_fldA rfl rfl underlying48 rfl sz4 (by decide) ((hρ 127 (lmem rfl)).trans rfl) hp57 rfl hv58⟩) rfl rfl
        (fc 129 (.bool x62) (hd_v rfl fun ρ hρ => ⟨rfl, ov_ldB rfl underlying4 rfl ((hρ 128 (lmem rfl)).trans rfl) hp61 hg63⟩) rfl rfl
        (fc 130 l_0 (hd_v rfl fun ρ hρ => ⟨rfl, opv_move rfl rfl ((hρ 0 (lmem rfl)).trans h0)⟩) rfl rfl
        (fc 131 (.int .i64 i_14) (hd_v rfl fun ρ hρ => ⟨rfl, opv_move rfl rfl ((hρ 14 (lmem rfl)).trans h14)⟩) rfl rfl
        (fc 132 p64 (hd_v rfl fun ρ hρ => ⟨rfl, ov_ixS rfl rfl rfl underlying27 sz48 ((hρ 130 (lmem rfl)).trans rfl) ((hρ 131 (lmem rfl)).trans rfl) hp69 h070 hj71 hv72⟩) rfl rfl
        (fc 133 p73 (hd_v rfl fun ρ hρ => ⟨rfl, ov_fldA rfl rfl underlying48 rfl sz4 (by decide) ((hρ 132 (lmem rfl)).trans rfl) hp76 rfl hv77⟩) rfl rfl
        (fc 134 (.bool x81) (hd_v rfl fun ρ hρ => ⟨rfl, ov_ldB rfl underlying4 rfl ((hρ 133 (lmem rfl)).trans rfl) hp80 hg82⟩) rfl rfl
        (fc 135 (.bool (!(x62 == x81))) (hd_v rfl fun ρ hρ => ⟨rfl, opv_neB rfl rfl rfl underlying4 ((hρ 129 (lmem rfl)).trans rfl) ((hρ 134 (lmem rfl)).trans rfl)⟩) rfl rfl
        (fc 136 (.bool (!(x62 == x81))) (hd_v rfl fun ρ hρ => ⟨rfl, opv_move rfl rfl ((hρ 135 (lmem rfl)).trans rfl)⟩) rfl rfl
        (fc 137 undef (hd_s rfl (fun ρ hρ => ⟨_, rfl, .inl ⟨_, ((hρ 136 (lmem rfl)).trans rfl), gq hb83 rfl⟩⟩) rfl) rfl rfl
        (fc 138 undef (hd_s rfl (fun ρ hρ => ⟨_, rfl, .inl ⟨_, ((hρ 136 (lmem rfl)).trans rfl), gq hb83 rfl⟩⟩) rfl) rfl rfl
        (fc 139 undef (hd_s rfl (fun ρ hρ => ⟨_, rfl, .inl ⟨_, ((hρ 136 (lmem rfl)).trans rfl), gq hb83 rfl⟩⟩) rfl) rfl rfl
        (fc 140 undef (hd_s rfl (fun ρ hρ => ⟨_, rfl, .inl ⟨_, ((hρ 136 (lmem rfl)).trans rfl), gq hb83 rfl⟩⟩) rfl) rfl rfl
        (fc 141 undef (hd_s rfl (fun ρ hρ => ⟨_, rfl, .inl ⟨_, ((hρ 136 (lmem rfl)).trans rfl), gq hb83 rfl⟩⟩) rfl) rfl rfl
        (fc 142 undef (hd_s rfl (fun ρ hρ => ⟨_, rfl, .inl ⟨_, ((hρ 136 (lmem rfl)).trans rfl), gq hb83 rfl⟩⟩) rfl) rfl rfl
        (fc 143 undef (hd_s rfl (fun ρ hρ => ⟨_, rfl, .inl ⟨_, ((hρ 136 (lmem rfl)).trans rfl), gq hb83 rfl⟩⟩) rfl) rfl rfl
        (fc 144 undef (hd_s rfl (fun ρ hρ => ⟨_, rfl, .inl ⟨_, ((hρ 136 (lmem rfl)).trans rfl), gq hb83 rfl⟩⟩) rfl) rfl rfl
        (fc 145 undef (hd_s rfl (fun ρ hρ => ⟨_, rfl, .inl ⟨_, ((hρ 136 (lmem rfl)).trans rfl), gq hb83 rfl⟩⟩) rfl) rfl rfl
        (fc 146 undef (hd_s rfl (fun ρ hρ => ⟨_, rfl, .inl ⟨_, ((hρ 136 (lmem rfl)).trans rfl), gq hb83 rfl⟩⟩) rfl) rfl rfl
        (fc 147 undef (hd_s rfl (fun ρ hρ => ⟨_, rfl, .inl ⟨_, ((hρ 136 (lmem rfl)).trans rfl), gq hb83 rfl⟩⟩) rfl) rfl rfl
        ffn)))))))))))))))))))))))) ?_
      refine lt_skip (dt := some 148) rfl rfl (fun ρ hρ => ⟨_, rfl, .inl ⟨_, ((hρ 136 (lmem rfl)).trans rfl), gq hb83 rfl⟩⟩) ?_
      refine lt_next (l := [13, 14, 15, 16, 17, 18, 25, 26]) (hv := [(25, undef), (26, Value.bool true)]) rfl rfl (pv_cons rfl (pv_cons rfl (pv_nil _)))
        (fc 137 undef (hd_s rfl (fun ρ hρ => ⟨_, rfl, .inl ⟨_, ((hρ 136 (lmem rfl)).trans rfl), gq hb83 rfl⟩⟩) rfl) rfl rfl
        (fc 138 undef (hd_s rfl (fun ρ hρ => ⟨_, rfl, .inl ⟨_, ((hρ 136 (lmem rfl)).trans rfl), gq hb83 rfl⟩⟩) rfl) rfl rfl
        (fc 139 undef (hd_s rfl (fun ρ hρ => ⟨_, rfl, .inl ⟨_, ((hρ 136 (lmem rfl)).trans rfl), gq hb83 rfl⟩⟩) rfl) rfl rfl
        (fc 140 undef (hd_s rfl (fun ρ hρ => ⟨_, rfl, .inl ⟨_, ((hρ 136 (lmem rfl)).trans rfl), gq hb83 rfl⟩⟩) rfl) rfl rfl
        (fc 141 undef (hd_s rfl (fun ρ hρ => ⟨_, rfl, .inl ⟨_, ((hρ 136 (lmem rfl)).trans rfl), gq hb83 rfl⟩⟩) rfl) rfl rfl
        (fc 142 undef (hd_s rfl (fun ρ hρ => ⟨_, rfl, .inl ⟨_, ((hρ 136 (lmem rfl)).trans rfl), gq hb83 rfl⟩⟩) rfl) rfl rfl
        (fc 149 undef (hd_s rfl (fun ρ hρ => ⟨_, rfl, .inl ⟨_, ((hρ 136 (lmem rfl)).trans rfl), gq hb83 rfl⟩⟩) rfl) rfl rfl
        (fc 150 (.bool true) (hd_v rfl fun ρ hρ => ⟨rfl, ov_pickT rfl rfl rfl rfl ((hρ 136 (lmem rfl)).trans rfl) hb83 rfl⟩) rfl rfl
        ffn)))))))) ?_
      refine lt_end ?_
      refine ago_condE  (rfl : C5_99 = .cond (.tmp 150) C5_100 C5_103) rfl rfl (fun h => ?_) (fun h => tf h)
      refine ago_seqE (rfl : C5_100 = .seq C5_101 C5_102) ?_
      refine ago_regE (rfl : C5_101 = .region 32 R5_32 false) (l := [0]) rfl ?_
      refine lj 4 R5_32_N rfl rfl rfl (opv_assign rfl rfl rfl) ?_
      refine aops_nil ?_
      exact ago_retE (rfl : C5_102 = .ret) (r := false) (ares_1 rfl (oneT rfl)) rfl H
    · replace H := cnd_f H hb83
      obtain ⟨b86, i87, p85, hp88, hv89, H⟩ := H
      obtain ⟨b90, i91, x93, hp92, hg94, H⟩ := H
      obtain ⟨b96, i97, l98, c99, p95, hp100, h0101, hj102, hv103, H⟩ := H
      obtain ⟨b105, i106, p104, hp107, hv108, H⟩ := H
      obtain ⟨b109, i110, x112, hp111, hg113, H⟩ := H
      obtain ⟨b115, i116, l117, c118, p114, hp119, h0120, hj121, hv122, H⟩ := H
      obtain ⟨b124, i125, p123, hp126, hv127, H⟩ := H
      obtain ⟨b128, i129, x131, hp130, hg132, H⟩ := H
      refine ago_drawH (p := [0, 1, 2, 3, 4, 5, 6, 7, 8, 9, 10, 11, 12, 13, 14, 15, 16, 17, 18, 19, 20, 21, 22, 23]) (tl := [(24, [13, 14, 15, 16, 17, 18], [25, 26])]) (hv := [(0, p35), (1, x43), (2, Value.int .i64 i_14), (3, p45), (4, p54), (5, Value.bool x62), (6, l_0), (7, Value.int .i64 i_14), (8, p64), (9, p73), (10, Value.bool x81), (11, Value.bool (!(x62 == x81))), (12, Value.bool (!(x62 == x81))), (13, p85), (14, x93), (15, Value.int .i64 i_14), (16, p95), (17, p104), (18, Value.int .i64 x112), (19, l_0), (20, Value.int .i64 i_14), (21, p114), (22, p123), (23, Value.int .i64 x131)]) (rfl : C5_98 = .region 31 R5_31 true) mixed R5_31_N R5_31_O rfl (pv_cons rfl (pv_cons rfl (pv_cons rfl (pv_cons rfl (pv_cons rfl (pv_cons rfl (pv_cons rfl (pv_cons rfl (pv_cons rfl (pv_cons rfl (pv_cons rfl (pv_cons rfl (pv_cons rfl (pv_cons rfl (pv_cons rfl (pv_cons rfl (pv_cons rfl (pv_cons rfl (pv_cons rfl (pv_cons rfl (pv_cons rfl (pv_cons rfl (pv_cons rfl (pv_cons rfl (pv_nil _)))))))))))))))))))))))))
        (fc 124 p35 (hd_v rfl fun ρ hρ => ⟨rfl, ov_fldA rfl rfl underlying29 rfl sz27 (by decide) ((hρ 9 (lmem rfl)).trans h9) hp38 rfl hv39⟩) rfl rfl
        (fc 125 x43 (hd_v rfl fun ρ hρ => ⟨rfl, ov_ldV rfl underlying27 rfl rfl ((hρ 124 (lmem rfl)).trans rfl) hp42 hg44⟩) rfl rfl
        (fc 126 (.int .i64 i_14) (hd_v rfl fun ρ hρ => ⟨rfl, opv_move rfl rfl ((hρ 14 (lmem rfl)).trans h14)⟩) rfl rfl
        (fc 127 p45 (hd_v rfl fun ρ hρ => ⟨rfl, ov_ixS rfl rfl rfl underlying27 sz48 ((hρ 125 (lmem rfl)).trans rfl) ((hρ 126 (lmem rfl)).trans rfl) hp50 h051 hj52 hv53⟩) rfl rfl
        (fc 128 p54 (hd_v rfl fun ρ hρ => ⟨rfl, ov_fldA rfl rfl underlying48 rfl sz4 (by decide) ((hρ 127 (lmem rfl)).trans rfl) hp57 rfl hv58⟩) rfl rfl
        (fc 129 (.bool x62) (hd_v rfl fun ρ hρ => ⟨rfl, ov_ldB rfl underlying4 rfl ((hρ 128 (lmem rfl)).trans rfl) hp61 hg63⟩) rfl rfl
        (fc 130 l_0 (hd_v rfl fun ρ hρ => ⟨rfl, opv_move rfl rfl ((hρ 0 (lmem rfl)).trans h0)⟩) rfl rfl
        (fc 131 (.int .i64 i_14) (hd_v rfl fun ρ hρ => ⟨rfl, opv_move rfl rfl ((hρ 14 (lmem rfl)).trans h14)⟩) rfl rfl
        (fc 132 p64 (hd_v rfl fun ρ hρ => ⟨rfl, ov_ixS rfl rfl rfl underlying27 sz48 ((hρ 130 (lmem rfl)).trans rfl) ((hρ 131 (lmem rfl)).trans rfl) hp69 h070 hj71 hv72⟩) rfl rfl
        (fc 133 p73 (hd_v rfl fun ρ hρ => ⟨rfl, ov_fldA rfl rfl underlying48 rfl sz4 (by decide) ((hρ 132 (lmem rfl)).trans rfl) hp76 rfl hv77⟩) rfl rfl
        (fc 134 (.bool x81) (hd_v rfl fun ρ hρ => ⟨rfl, ov_ldB rfl underlying4 rfl ((hρ 133 (lmem rfl)).trans rfl) hp80 hg82⟩) rfl rfl
        (fc 135 (.bool (!(x62 == x81))) (hd_v rfl fun ρ hρ => ⟨rfl, opv_neB rfl rfl rfl underlying4 ((hρ 129 (lmem rfl)).trans rfl) ((hρ 134 (lmem rfl)).trans rfl)⟩) rfl rfl
        (fc 136 (.bool (!(x62 == x81))) (hd_v rfl fun ρ hρ => ⟨rfl, opv_move rfl rfl ((hρ 135 (lmem rfl)).trans rfl)⟩) rfl rfl
        (fc 137 p85 (hd_v rfl fun ρ hρ => ⟨⟨_, rfl, .inl ⟨_, ((hρ 136 (lmem rfl)).trans rfl), gq hb83 rfl⟩⟩, ov_fldA rfl rfl underlying29 rfl sz27 (by decide) ((hρ 9 (lmem rfl)).trans h9) hp88 rfl hv89⟩) rfl rfl
        (fc 138 x93 (hd_v rfl fun ρ hρ => ⟨⟨_, rfl, .inl ⟨_, ((hρ 136 (lmem rfl)).trans rfl), gq hb83 rfl⟩⟩, ov_ldV rfl underlying27 rfl rfl ((hρ 137 (lmem rfl)).trans rfl) hp92 hg94⟩) rfl rfl
        (fc 139 (.int .i64 i_14) (hd_v rfl fun ρ hρ => ⟨⟨_, rfl, .inl ⟨_, ((hρ 136 (lmem rfl)).trans rfl), gq hb83 rfl⟩⟩, opv_move rfl rfl ((hρ 14 (lmem rfl)).trans h14)⟩) rfl rfl
        (fc 140 p95 (hd_v rfl fun ρ hρ => ⟨⟨_, rfl, .inl ⟨_, ((hρ 136 (lmem rfl)).trans rfl), gq hb83 rfl⟩⟩, ov_ixS rfl rfl rfl underlying27 sz48 ((hρ 138 (lmem rfl)).trans rfl) ((hρ 139 (lmem rfl)).trans rfl) hp100 h0101 hj102 hv103⟩) rfl rfl
        (fc 141 p104 (hd_v rfl fun ρ hρ => ⟨⟨_, rfl, .inl ⟨_, ((hρ 136 (lmem rfl)).trans rfl), gq hb83 rfl⟩⟩, ov_fldA rfl rfl underlying48 rfl sz2 (by decide) ((hρ 140 (lmem rfl)).trans rfl) hp107 rfl hv108⟩) rfl rfl
        (fc 142 (.int .i64 x112) (hd_v rfl fun ρ hρ => ⟨⟨_, rfl, .inl ⟨_, ((hρ 136 (lmem rfl)).trans rfl), gq hb83 rfl⟩⟩, ov_ldI rfl underlying2 rfl ((hρ 141 (lmem rfl)).trans rfl) hp111 hg113⟩) rfl rfl
        (fc 143 l_0 (hd_v rfl fun ρ hρ => ⟨⟨_, rfl, .inl ⟨_, ((hρ 136 (lmem rfl)).trans rfl), gq hb83 rfl⟩⟩, opv_move rfl rfl ((hρ 0 (lmem rfl)).trans h0)⟩) rfl rfl
        (fc 144 (.int .i64 i_14) (hd_v rfl fun ρ hρ => ⟨⟨_, rfl, .inl ⟨_, ((hρ 136 (lmem rfl)).trans rfl), gq hb83 rfl⟩⟩, opv_move rfl rfl ((hρ 14 (lmem rfl)).trans h14)⟩) rfl rfl
        (fc 145 p114 (hd_v rfl fun ρ hρ => ⟨⟨_, rfl, .inl ⟨_, ((hρ 136 (lmem rfl)).trans rfl), gq hb83 rfl⟩⟩, ov_ixS rfl rfl rfl underlying27 sz48 ((hρ 143 (lmem rfl)).trans rfl) ((hρ 144 (lmem rfl)).trans rfl) hp119 h0120 hj121 hv122⟩) rfl rfl
        (fc 146 p123 (hd_v rfl fun ρ hρ => ⟨⟨_, rfl, .inl ⟨_, ((hρ 136 (lmem rfl)).trans rfl), gq hb83 rfl⟩⟩, ov_fldA rfl rfl underlying48 rfl sz2 (by decide) ((hρ 145 (lmem rfl)).trans rfl) hp126 rfl hv127⟩) rfl rfl
        (fc 147 (.int .i64 x131) (hd_v rfl fun ρ hρ => ⟨⟨_, rfl, .inl ⟨_, ((hρ 136 (lmem rfl)).trans rfl), gq hb83 rfl⟩⟩, ov_ldI rfl underlying2 rfl ((hρ 146 (lmem rfl)).trans rfl) hp130 hg132⟩) rfl rfl
        ffn)))))))))))))))))))))))) ?_
      refine lt_call (dt := some 148) rfl rfl (fun ρ hρ => ⟨⟨_, rfl, .inl ⟨_, ((hρ 136 (lmem rfl)).trans rfl), gq hb83 rfl⟩⟩, opc_of rfl rfl is12 (ma_cons ((hρ 147 (lmem rfl)).trans rfl) rfl)⟩) H (fun _ _ h _ => ⟨rfl, h⟩) fun r133 aw134 H => ?_
      obtain ⟨hg94, H⟩ := H
      replace hg94 := hg94 _ _ hp92
      obtain ⟨hg113, H⟩ := H
      replace hg113 := hg113 _ _ hp111
      refine lt_next (l := [13, 14, 15, 16, 17, 18, 25, 26]) (hv := [(25, Value.bool (!decide (x112 = r133))), (26, Value.bool (!decide (x112 = r133)))]) rfl rfl (pv_cons rfl (pv_cons rfl (pv_nil _)))
        (fc 137 p85 (hd_v rfl fun ρ hρ => ⟨⟨_, rfl, .inl ⟨_, ((hρ 136 (lmem rfl)).trans rfl), gq hb83 rfl⟩⟩, ov_fldA rfl rfl underlying29 rfl sz27 (by decide) ((hρ 9 (lmem rfl)).trans h9) hp88 rfl hv89⟩) rfl rfl
        (fc 138 x93 (hd_v rfl fun ρ hρ => ⟨⟨_, rfl, .inl ⟨_, ((hρ 136 (lmem rfl)).trans rfl), gq hb83 rfl⟩⟩, ov_ldV rfl underlying27 rfl rfl ((hρ 137 (lmem rfl)).trans rfl) hp92 hg94⟩) rfl rfl
        (fc 139 (.int .i64 i_14) (hd_v rfl fun ρ hρ => ⟨⟨_, rfl, .inl ⟨_, ((hρ 136 (lmem rfl)).trans rfl), gq hb83 rfl⟩⟩, opv_move rfl rfl ((hρ 14 (lmem rfl)).trans h14)⟩) rfl rfl
        (fc 140 p95 (hd_v rfl fun ρ hρ => ⟨⟨_, rfl, .inl ⟨_, ((hρ 136 (lmem rfl)).trans rfl), gq hb83 rfl⟩⟩, ov_ixS rfl rfl rfl underlying27 sz48 ((hρ 138 (lmem rfl)).trans rfl) ((hρ 139 (lmem rfl)).trans rfl) hp100 h0101 hj102 hv103⟩) rfl rfl
        (fc 141 p104 (hd_v rfl fun ρ hρ => ⟨⟨_, rfl, .inl ⟨_, ((hρ 136 (lmem rfl)).trans rfl), gq hb83 rfl⟩⟩, ov_fldA rfl rfl underlying48 rfl sz2 (by decide) ((hρ 140 (lmem rfl)).trans rfl) hp107 rfl hv108⟩) rfl rfl
        (fc 142 (.int .i64 x112) (hd_v rfl fun ρ hρ => ⟨⟨_, rfl, .inl ⟨_, ((hρ 136 (lmem rfl)).trans rfl), gq hb83 rfl⟩⟩, ov_ldI rfl underlying2 rfl ((hρ 141 (lmem rfl)).trans rfl) hp111 hg113⟩) rfl rfl
        (fc 149 (.bool (!decide (x112 = r133))) (hd_v rfl fun ρ hρ => ⟨⟨_, rfl, .inl ⟨_, ((hρ 136 (lmem rfl)).trans rfl), gq hb83 rfl⟩⟩, opv_neI rfl rfl rfl ((hρ 142 (lmem rfl)).trans rfl) ((hρ 148 (lmem rfl)).trans rfl)⟩) rfl rfl
        (fc 150 (.bool (!decide (x112 = r133))) (hd_v rfl fun ρ hρ => ⟨rfl, ov_pickF rfl rfl rfl rfl ((hρ 136 (lmem rfl)).trans rfl) hb83 ((hρ 149 (lmem rfl)).trans rfl)⟩) rfl rfl
        ffn)))))))) ?_
      refine lt_end ?_
      refine ago_condE  (rfl : C5_99 = .cond (.tmp 150) C5_100 C5_103) rfl rfl (fun hb135 => ?_) (fun hb135 => ?_)
      · replace H := cnd_t H hb135
        refine ago_seqE (rfl : C5_100 = .seq C5_101 C5_102) ?_
        refine ago_regE (rfl : C5_101 = .region 32 R5_32 false) (l := [0]) rfl ?_
        refine lj 4 R5_32_N rfl rfl rfl (opv_assign rfl rfl rfl) ?_
        refine aops_nil ?_
        exact ago_retE (rfl : C5_102 = .ret) (r := false) (ares_1 rfl (oneT rfl)) rfl H
      replace H := cnd_f H hb135
      refine ago_skipE (rfl : C5_103 = .skip) ?_
      refine ago_inBlock ?_
      refine ago_cut (fun ρ => ρ 0 = l_0 ∧ ρ 6 = .int .i64 n_6 ∧ ρ 9 = r_9 ∧ ρ 13 = .int .i64 k_13 ∧ ρ 14 = .int .i64 i_14 ∧ True) ⟨h0, h6, h9, h13, h14, trivial⟩ (fun ρ ⟨h0, h6, h9, h13, h14, _⟩ => ?_)
      refine ago_regE (rfl : C5_104 = .region 30 R5_30 false) (l := [0, 1, 2]) rfl ?_
      refine lj 122 R5_30_N rfl rfl rfl (opv_move rfl rfl h14) ?_
      refine lj 123 R5_30_N rfl rfl rfl (opv_add rfl rfl rfl rfl rfl) ?_
      refine lj 14 R5_30_N rfl rfl rfl (opv_assign rfl rfl rfl) ?_
      refine aops_nil ?_
      refine ago_inLoop ?_
      exact L6 _ l_0 n_6 r_9 k_13 (IntKind.i64.wrap (i_14 + 1)) aw134 h0 h6 h9 h13 rfl H
  replace H := cnd_f H hb34
  refine ago_exitE (rfl : C5_94 = .exit 4) rfl ?_
  refine ago_seqE (rfl : C5_105 = .seq C5_106 C5_107) ?_
  refine ago_regE (rfl : C5_106 = .region 33 R5_33 false) (l := [0, 1, 2, 3, 4, 5, 6, 7, 8, 9, 10, 11, 12, 13, 14, 15]) rfl ?_
  refine lj 151 R5_33_N rfl rfl rfl (opv_move rfl rfl h6) ?_
  refine lj 152 R5_33_N rfl rfl rfl (opv_gt rfl rfl rfl rfl rfl) ?_
  refine lj 153 R5_33_N rfl rfl rfl (opv_move rfl rfl rfl) ?_
  rcases Bool.eq_false_or_eq_true (decide (10 < n_6)) with hb136 | hb136
  · replace H := cnd_t H hb136
    refine ls 154 R5_33_N rfl rfl ⟨_, rfl, .inl ⟨_, rfl, gq hb136 rfl⟩⟩ ?_
    refine ls 155 R5_33_N rfl rfl ⟨_, rfl, .inl ⟨_, rfl, gq hb136 rfl⟩⟩ ?_
    refine ls 156 R5_33_N rfl rfl ⟨_, rfl, .inl ⟨_, rfl, gq hb136 rfl⟩⟩ ?_
    refine ls 157 R5_33_N rfl rfl ⟨_, rfl, .inl ⟨_, rfl, gq hb136 rfl⟩⟩ ?_
    refine ls 158 R5_33_N rfl rfl ⟨_, rfl, .inr ⟨rfl, rfl⟩⟩ ?_
    refine ls 159 R5_33_N rfl rfl ⟨_, rfl, .inr ⟨rfl, rfl⟩⟩ ?_
    refine ls 160 R5_33_N rfl rfl ⟨_, rfl, .inr ⟨rfl, rfl⟩⟩ ?_
    refine ls 161 R5_33_N rfl rfl ⟨_, rfl, .inr ⟨rfl, rfl⟩⟩ ?_
    refine ls 162 R5_33_N rfl rfl ⟨_, rfl, .inr ⟨rfl, rfl⟩⟩ ?_
    refine ls 163 R5_33_N rfl rfl ⟨_, rfl, .inr ⟨rfl, rfl⟩⟩ ?_
    refine ls 164 R5_33_N rfl rfl ⟨_, rfl, .inl ⟨_, rfl, gq hb136 rfl⟩⟩ ?_
    refine lj 165 R5_33_N rfl rfl rfl (ov_pickT rfl rfl rfl rfl rfl hb136 rfl) ?_
    refine lj 4 R5_33_N rfl rfl rfl (opv_assign rfl rfl rfl) ?_
    refine aops_nil ?_
    exact ago_retE (rfl : C5_107 = .ret) (r := true) (ares_1 rfl (oneT rfl)) rfl H
  · replace H := cnd_f H hb136
    obtain ⟨b138, i139, p137, hp140, hv141, H⟩ := H
    refine lj 154 R5_33_N rfl rfl ⟨_, rfl, .inl ⟨_, rfl, gq hb136 rfl⟩⟩ (ov_fldA rfl rfl underlying29 rfl sz24 (by decide) h9 hp140 rfl hv141) ?_
    obtain ⟨b142, i143, x145, hp144, hg146, H⟩ := H
    refine lj 155 R5_33_N rfl rfl ⟨_, rfl, .inl ⟨_, rfl, gq hb136 rfl⟩⟩ (ov_ldI rfl underlying24 rfl rfl hp144 hg146) ?_
    refine lj 156 R5_33_N rfl rfl ⟨_, rfl, .inl ⟨_, rfl, gq hb136 rfl⟩⟩ (opv_eqI rfl rfl rfl rfl rfl) ?_
    refine lj 157 R5_33_N rfl rfl ⟨_, rfl, .inl ⟨_, rfl, gq hb136 rfl⟩⟩ (opv_move rfl rfl rfl) ?_
    rcases Bool.eq_false_or_eq_true (decide (x145 = 0)) with hb147 | hb147
    · replace H := cnd_t H hb147
      obtain ⟨b149, i150, p148, hp151, hv152, H⟩ := H
      refine lj 158 R5_33_N rfl rfl ⟨_, rfl, .inl ⟨_, rfl, gq hb147 rfl⟩⟩ (ov_fldA rfl rfl underlying29 rfl sz3 (by decide) h9 hp151 rfl hv152) ?_
      obtain ⟨b153, i154, x156, hp155, hg157, H⟩ := H
      refine lj 159 R5_33_N rfl rfl ⟨_, rfl, .inl ⟨_, rfl, gq hb147 rfl⟩⟩ (ov_ldI rfl underlying3 rfl rfl hp155 hg157) ?_
      refine lj 160 R5_33_N rfl rfl ⟨_, rfl, .inl ⟨_, rfl, gq hb147 rfl⟩⟩ (opv_move rfl rfl h6) ?_
      refine lj 161 R5_33_N rfl rfl ⟨_, rfl, .inl ⟨_, rfl, gq hb147 rfl⟩⟩ (opv_mul rfl rfl rfl rfl rfl) ?_
      refine lj 162 R5_33_N rfl rfl ⟨_, rfl, .inl ⟨_, rfl, gq hb147 rfl⟩⟩ (opv_sub rfl rfl rfl rfl rfl) ?_
      refine lj 163 R5_33_N rfl rfl ⟨_, rfl, .inl ⟨_, rfl, gq hb147 rfl⟩⟩ (opv_eqI rfl rfl rfl rfl rfl) ?_
      refine lj 164 R5_33_N rfl rfl ⟨_, rfl, .inl ⟨_, rfl, gq hb136 rfl⟩⟩ (ov_pickT rfl rfl rfl rfl rfl hb147 rfl) ?_
      refine lj 165 R5_33_N rfl rfl rfl (ov_pickF rfl rfl rfl rfl rfl hb136 rfl) ?_
      refine lj 4 R5_33_N rfl rfl rfl (opv_assign rfl rfl rfl) ?_
      refine aops_nil ?_
      exact ago_retE (rfl : C5_107 = .ret) (r := (decide (x156 = (IntKind.i64.wrap (100 - (IntKind.i64.wrap (2 * n_6))))))) (ares_1 rfl (oneT rfl)) rfl H
    · replace H := cnd_f H hb147
      refine ls 158 R5_33_N rfl rfl ⟨_, rfl, .inl ⟨_, rfl, gq hb147 rfl⟩⟩ ?_
      refine ls 159 R5_33_N rfl rfl ⟨_, rfl, .inl ⟨_, rfl, gq hb147 rfl⟩⟩ ?_
      refine ls 160 R5_33_N rfl rfl ⟨_, rfl, .inl ⟨_, rfl, gq hb147 rfl⟩⟩ ?_
      refine ls 161 R5_33_N rfl rfl ⟨_, rfl, .inl ⟨_, rfl, gq hb147 rfl⟩⟩ ?_
      refine ls 162 R5_33_N rfl rfl ⟨_, rfl, .inl ⟨_, rfl, gq hb147 rfl⟩⟩ ?_
      refine ls 163 R5_33_N rfl rfl ⟨_, rfl, .inl ⟨_, rfl, gq hb147 rfl⟩⟩ ?_
      refine lj 164 R5_33_N rfl rfl ⟨_, rfl, .inl ⟨_, rfl, gq hb136 rfl⟩⟩ (ov_pickF rfl rfl rfl rfl rfl hb147 rfl) ?_
      refine lj 165 R5_33_N rfl rfl rfl (ov_pickF rfl rfl rfl rfl rfl hb136 rfl) ?_
      refine lj 4 R5_33_N rfl rfl rfl (opv_assign rfl rfl rfl) ?_
      refine aops_nil ?_
      exact ago_retE (rfl : C5_107 = .ret) (r := false) (ares_1 rfl (oneT rfl)) rfl H
theorem S5_6_ok (Q : Bool → AW → Prop) (E : List PanicEntry → AW → Prop)  : ∀ (n : Nat) (ρ : Env) (l_0 : Value) (n_6 : Int) (r_9 : Value) (k_13 : Int) (i_14 : Int) (aw : AW) (h0 : ρ 0 = l_0) (h6 : ρ 6 = .int .i64 n_6) (h9 : ρ 9 = r_9) (h13 : ρ 13 = .int .i64 k_13) (h14 : ρ 14 = .int .i64 i_14), S5_6 Q E  n l_0 n_6 r_9 k_13 i_14 aw →
    AGo prog 166 [.code C5_89, .inLoop C5_89, .inBlock 4, .code C5_105] ρ [] aw (RR prog f5 166 sh5 Q E)
  | 0, _, _, _, _, _, _, _, _, _, _, _, _ => fun H => H.elim
  | n + 1, ρ, l_0, n_6, r_9, k_13, i_14, aw, h0, h6, h9, h13, h14 => fun H => S5_6s_ok Q E  _ (S5_6_ok Q E  n) ρ l_0 n_6 r_9 k_13 i_14 aw h0 h6 h9 h13 h14 H
theorem S5_5_ok (Q : Bool → AW → Prop) (E : List PanicEntry → AW → Prop)  (ρ : Env) (l_0 : Value) (n_6 : Int) (r_9 : Value) (out_11 : ByteArray) (k_13 : Int) (aw : AW) (h0 : ρ 0 = l_0) (h6 : ρ 6 = .int .i64 n_6) (h9 : ρ 9 = r_9) (h11 : ρ 11 = .string out_11) (h13 : ρ 13 = .int .i64 k_13) (H : S5_5 Q E  l_0 n_6 r_9 out_11 k_13 aw) :
    AGo prog 166 [.code C5_76] ρ [] aw (RR prog f5 166 sh5 Q E) := by
  unfold S5_5 at H
  refine ago_seqE (rfl : C5_76 = .seq C5_77 C5_84) ?_
  refine ago_seqE (rfl : C5_77 = .seq C5_78 C5_79) ?_
  refine ago_regE (rfl : C5_78 = .region 26 R5_26 false) (l := [0, 1, 2, 3, 4, 5, 6, 7, 8, 9, 10, 11, 12, 13, 14, 15, 16, 17, 18, 19, 20, 21, 22, 23, 24, 25, 26, 27]) rfl ?_
  obtain ⟨b159, i160, p158, hp161, hv162, H⟩ := H
  refine lj 91 R5_26_N rfl rfl rfl (ov_fldA rfl rfl underlying29 rfl sz9 (by decide) h9 hp161 rfl hv162) ?_
  obtain ⟨b163, i164, x166, hp165, hg167, H⟩ := H
  refine lj 92 R5_26_N rfl rfl rfl (ov_ldS rfl underlying9 rfl rfl hp165 hg167) ?_
  refine lj 93 R5_26_N rfl rfl rfl (opv_move rfl rfl h11) ?_
  refine lj 94 R5_26_N rfl rfl rfl (opv_neS rfl rfl rfl rfl rfl) ?_
  refine lj 95 R5_26_N rfl rfl rfl (opv_move rfl rfl rfl) ?_
  rcases Bool.eq_false_or_eq_true (!decide (x166 = out_11)) with hb168 | hb168
  · replace H := cnd_t H hb168
    refine ls 96 R5_26_N rfl rfl ⟨_, rfl, .inl ⟨_, rfl, gq hb168 rfl⟩⟩ ?_
    refine ls 97 R5_26_N rfl rfl ⟨_, rfl, .inl ⟨_, rfl, gq hb168 rfl⟩⟩ ?_
    refine ls 98 R5_26_N rfl rfl ⟨_, rfl, .inl ⟨_, rfl, gq hb168 rfl⟩⟩ ?_
    refine ls 99 R5_26_N rfl rfl ⟨_, rfl, .inl ⟨_, rfl, gq hb168 rfl⟩⟩ ?_
    refine ls 100 R5_26_N rfl rfl ⟨_, rfl, .inl ⟨_, rfl, gq hb168 rfl⟩⟩ ?_
    refine lj 101 R5_26_N rfl rfl rfl (ov_pickT rfl rfl rfl rfl rfl hb168 rfl) ?_
    refine lj 102 R5_26_N rfl rfl rfl (opv_move rfl rfl rfl) ?_
    refine ls 103 R5_26_N rfl rfl ⟨_, rfl, .inl ⟨_, rfl, gq rfl rfl⟩⟩ ?_
    refine ls 104 R5_26_N rfl rfl ⟨_, rfl, .inl ⟨_, rfl, gq rfl rfl⟩⟩ ?_
    refine ls 105 R5_26_N rfl rfl ⟨_, rfl, .inl ⟨_, rfl, gq rfl rfl⟩⟩ ?_
    refine ls 106 R5_26_N rfl rfl ⟨_, rfl, .inl ⟨_, rfl, gq rfl rfl⟩⟩ ?_
    refine ls 107 R5_26_N rfl rfl ⟨_, rfl, .inl ⟨_, rfl, gq rfl rfl⟩⟩ ?_
    refine ls 108 R5_26_N rfl rfl ⟨_, rfl, .inl ⟨_, rfl, gq rfl rfl⟩⟩ ?_
    refine lj 109 R5_26_N rfl rfl rfl (ov_pickT rfl rfl rfl rfl rfl rfl rfl) ?_
    refine lj 110 R5_26_N rfl rfl rfl (opv_move rfl rfl rfl) ?_
    refine ls 111 R5_26_N rfl rfl ⟨_, rfl, .inl ⟨_, rfl, gq rfl rfl⟩⟩ ?_
    refine ls 112 R5_26_N rfl rfl ⟨_, rfl, .inl ⟨_, rfl, gq rfl rfl⟩⟩ ?_
    refine ls 113 R5_26_N rfl rfl ⟨_, rfl, .inl ⟨_, rfl, gq rfl rfl⟩⟩ ?_
    refine ls 114 R5_26_N rfl rfl ⟨_, rfl, .inr ⟨rfl, rfl⟩⟩ ?_
    refine ls 115 R5_26_N rfl rfl ⟨_, rfl, .inr ⟨rfl, rfl⟩⟩ ?_
    refine ls 116 R5_26_N rfl rfl ⟨_, rfl, .inr ⟨rfl, rfl⟩⟩ ?_
    refine ls 117 R5_26_N rfl rfl ⟨_, rfl, .inl ⟨_, rfl, gq rfl rfl⟩⟩ ?_
    refine lj 118 R5_26_N rfl rfl rfl (ov_pickT rfl rfl rfl rfl rfl rfl rfl) ?_
    refine aops_nil ?_
    refine ago_condE  (rfl : C5_79 = .cond (.tmp 118) C5_80 C5_83) rfl rfl (fun h => ?_) (fun h => tf h)
    refine ago_seqE (rfl : C5_80 = .seq C5_81 C5_82) ?_
    refine ago_regE (rfl : C5_81 = .region 27 R5_27 false) (l := [0]) rfl ?_
    refine lj 4 R5_27_N rfl rfl rfl (opv_assign rfl rfl rfl) ?_
    refine aops_nil ?_
    exact ago_retE (rfl : C5_82 = .ret) (r := false) (ares_1 rfl (oneT rfl)) rfl H
  · replace H := cnd_f H hb168
    obtain ⟨b171, i172, p170, hp173, hv174, H⟩ := H
    refine lj 96 R5_26_N rfl rfl ⟨_, rfl, .inl ⟨_, rfl, gq hb168 rfl⟩⟩ (ov_fldA rfl rfl underlying29 rfl sz27 (by decide) h9 hp173 rfl hv174) ?_
    obtain ⟨b175, i176, x178, hp177, hg179, H⟩ := H
    refine lj 97 R5_26_N rfl rfl ⟨_, rfl, .inl ⟨_, rfl, gq hb168 rfl⟩⟩ (ov_ldV rfl underlying27 rfl rfl rfl hp177 hg179) ?_
    obtain ⟨q181, l182, c183, n180, hv184, hn185, H⟩ := H
    refine lj 98 R5_26_N rfl rfl ⟨_, rfl, .inl ⟨_, rfl, gq hb168 rfl⟩⟩ (ov_len rfl rfl rfl underlying27 rfl hv184 hn185) ?_
    refine lj 99 R5_26_N rfl rfl ⟨_, rfl, .inl ⟨_, rfl, gq hb168 rfl⟩⟩ (opv_move rfl rfl h13) ?_
    refine lj 100 R5_26_N rfl rfl ⟨_, rfl, .inl ⟨_, rfl, gq hb168 rfl⟩⟩ (opv_neI rfl rfl rfl rfl rfl) ?_
    refine lj 101 R5_26_N rfl rfl rfl (ov_pickF rfl rfl rfl rfl rfl hb168 rfl) ?_
    refine lj 102 R5_26_N rfl rfl rfl (opv_move rfl rfl rfl) ?_
    rcases Bool.eq_false_or_eq_true (!decide (n180 = k_13)) with hb186 | hb186
    · replace H := cnd_t H hb186
      refine ls 103 R5_26_N rfl rfl ⟨_, rfl, .inl ⟨_, rfl, gq hb186 rfl⟩⟩ ?_
      refine ls 104 R5_26_N rfl rfl ⟨_, rfl, .inl ⟨_, rfl, gq hb186 rfl⟩⟩ ?_
      refine ls 105 R5_26_N rfl rfl ⟨_, rfl, .inl ⟨_, rfl, gq hb186 rfl⟩⟩ ?_
      refine ls 106 R5_26_N rfl rfl ⟨_, rfl, .inl ⟨_, rfl, gq hb186 rfl⟩⟩ ?_
      refine ls 107 R5_26_N rfl rfl ⟨_, rfl, .inl ⟨_, rfl, gq hb186 rfl⟩⟩ ?_
      refine ls 108 R5_26_N rfl rfl ⟨_, rfl, .inl ⟨_, rfl, gq hb186 rfl⟩⟩ ?_
      refine lj 109 R5_26_N rfl rfl rfl (ov_pickT rfl rfl rfl rfl rfl hb186 rfl) ?_
      refine lj 110 R5_26_N rfl rfl rfl (opv_move rfl rfl rfl) ?_
      refine ls 111 R5_26_N rfl rfl ⟨_, rfl, .inl ⟨_, rfl, gq rfl rfl⟩⟩ ?_
      refine ls 112 R5_26_N rfl rfl ⟨_, rfl, .inl ⟨_, rfl, gq rfl rfl⟩⟩ ?_
      refine ls 113 R5_26_N rfl rfl ⟨_, rfl, .inl ⟨_, rfl, gq rfl rfl⟩⟩ ?_
      refine ls 114 R5_26_N rfl rfl ⟨_, rfl, .inr ⟨rfl, rfl⟩⟩ ?_
      refine ls 115 R5_26_N rfl rfl ⟨_, rfl, .inr ⟨rfl, rfl⟩⟩ ?_
      refine ls 116 R5_26_N rfl rfl ⟨_, rfl, .inr ⟨rfl, rfl⟩⟩ ?_
      refine ls 117 R5_26_N rfl rfl ⟨_, rfl, .inl ⟨_, rfl, gq rfl rfl⟩⟩ ?_
      refine lj 118 R5_26_N rfl rfl rfl (ov_pickT rfl rfl rfl rfl rfl rfl rfl) ?_
      refine aops_nil ?_
      refine ago_condE  (rfl : C5_79 = .cond (.tmp 118) C5_80 C5_83) rfl rfl (fun h => ?_) (fun h => tf h)
      refine ago_seqE (rfl : C5_80 = .seq C5_81 C5_82) ?_
      refine ago_regE (rfl : C5_81 = .region 27 R5_27 false) (l := [0]) rfl ?_
      refine lj 4 R5_27_N rfl rfl rfl (opv_assign rfl rfl rfl) ?_
      refine aops_nil ?_
      exact ago_retE (rfl : C5_82 = .ret) (r := false) (ares_1 rfl (oneT rfl)) rfl H
    · replace H := cnd_f H hb186
      obtain ⟨b189, i190, p188, hp191, hv192, H⟩ := H
      refine lj 103 R5_26_N rfl rfl ⟨_, rfl, .inl ⟨_, rfl, gq hb186 rfl⟩⟩ (ov_fldA rfl rfl underlying29 rfl sz24 (by decide) h9 hp191 rfl hv192) ?_
      obtain ⟨b193, i194, x196, hp195, hg197, H⟩ := H
      refine lj 104 R5_26_N rfl rfl ⟨_, rfl, .inl ⟨_, rfl, gq hb186 rfl⟩⟩ (ov_ldI rfl underlying24 rfl rfl hp195 hg197) ?_
      refine lj 105 R5_26_N rfl rfl ⟨_, rfl, .inl ⟨_, rfl, gq hb186 rfl⟩⟩ (opv_eqI rfl rfl rfl rfl rfl) ?_
      refine lj 106 R5_26_N rfl rfl ⟨_, rfl, .inl ⟨_, rfl, gq hb186 rfl⟩⟩ (opv_move rfl rfl h6) ?_
      refine lj 107 R5_26_N rfl rfl ⟨_, rfl, .inl ⟨_, rfl, gq hb186 rfl⟩⟩ (opv_gt rfl rfl rfl rfl rfl) ?_
      refine lj 108 R5_26_N rfl rfl ⟨_, rfl, .inl ⟨_, rfl, gq hb186 rfl⟩⟩ (opv_neB rfl rfl rfl underlying4 rfl rfl) ?_
      refine lj 109 R5_26_N rfl rfl rfl (ov_pickF rfl rfl rfl rfl rfl hb186 rfl) ?_
      refine lj 110 R5_26_N rfl rfl rfl (opv_move rfl rfl rfl) ?_
      rcases Bool.eq_false_or_eq_true (!((decide (x196 = 9)) == (decide (10 < n_6)))) with hb198 | hb198
      · replace H := cnd_t H hb198
        refine ls 111 R5_26_N rfl rfl ⟨_, rfl, .inl ⟨_, rfl, gq hb198 rfl⟩⟩ ?_
        refine ls 112 R5_26_N rfl rfl ⟨_, rfl, .inl ⟨_, rfl, gq hb198 rfl⟩⟩ ?_
        refine ls 113 R5_26_N rfl rfl ⟨_, rfl, .inl ⟨_, rfl, gq hb198 rfl⟩⟩ ?_
        refine ls 114 R5_26_N rfl rfl ⟨_, rfl, .inr ⟨rfl, rfl⟩⟩ ?_
        refine ls 115 R5_26_N rfl rfl ⟨_, rfl, .inr ⟨rfl, rfl⟩⟩ ?_
        refine ls 116 R5_26_N rfl rfl ⟨_, rfl, .inr ⟨rfl, rfl⟩⟩ ?_
        refine ls 117 R5_26_N rfl rfl ⟨_, rfl, .inl ⟨_, rfl, gq hb198 rfl⟩⟩ ?_
        refine lj 118 R5_26_N rfl rfl rfl (ov_pickT rfl rfl rfl rfl rfl hb198 rfl) ?_
        refine aops_nil ?_
        refine ago_condE  (rfl : C5_79 = .cond (.tmp 118) C5_80 C5_83) rfl rfl (fun h => ?_) (fun h => tf h)
        refine ago_seqE (rfl : C5_80 = .seq C5_81 C5_82) ?_
        refine ago_regE (rfl : C5_81 = .region 27 R5_27 false) (l := [0]) rfl ?_
        refine lj 4 R5_27_N rfl rfl rfl (opv_assign rfl rfl rfl) ?_
        refine aops_nil ?_
        exact ago_retE (rfl : C5_82 = .ret) (r := false) (ares_1 rfl (oneT rfl)) rfl H
      · replace H := cnd_f H hb198
        refine lj 111 R5_26_N rfl rfl ⟨_, rfl, .inl ⟨_, rfl, gq hb198 rfl⟩⟩ (opv_move rfl rfl h6) ?_
        refine lj 112 R5_26_N rfl rfl ⟨_, rfl, .inl ⟨_, rfl, gq hb198 rfl⟩⟩ (opv_gt rfl rfl rfl rfl rfl) ?_
        refine lj 113 R5_26_N rfl rfl ⟨_, rfl, .inl ⟨_, rfl, gq hb198 rfl⟩⟩ (opv_move rfl rfl rfl) ?_
        rcases Bool.eq_false_or_eq_true (decide (10 < n_6)) with hb200 | hb200
        · replace H := cnd_t H hb200
          obtain ⟨b202, i203, p201, hp204, hv205, H⟩ := H
          refine lj 114 R5_26_N rfl rfl ⟨_, rfl, .inl ⟨_, rfl, gq hb200 rfl⟩⟩ (ov_fldA rfl rfl underlying29 rfl sz9 (by decide) h9 hp204 rfl hv205) ?_
          obtain ⟨b206, i207, x209, hp208, hg210, H⟩ := H
          refine lj 115 R5_26_N rfl rfl ⟨_, rfl, .inl ⟨_, rfl, gq hb200 rfl⟩⟩ (ov_ldS rfl underlying9 rfl rfl hp208 hg210) ?_
          refine lj 116 R5_26_N rfl rfl ⟨_, rfl, .inl ⟨_, rfl, gq hb200 rfl⟩⟩ (opv_neS rfl rfl rfl rfl rfl) ?_
          refine lj 117 R5_26_N rfl rfl ⟨_, rfl, .inl ⟨_, rfl, gq hb198 rfl⟩⟩ (ov_pickT rfl rfl rfl rfl rfl hb200 rfl) ?_
          refine lj 118 R5_26_N rfl rfl rfl (ov_pickF rfl rfl rfl rfl rfl hb198 rfl) ?_
          refine aops_nil ?_
          refine ago_condE  (rfl : C5_79 = .cond (.tmp 118) C5_80 C5_83) rfl rfl (fun hb211 => ?_) (fun hb211 => ?_)
          · replace H := cnd_t H hb211
            refine ago_seqE (rfl : C5_80 = .seq C5_81 C5_82) ?_
            refine ago_regE (rfl : C5_81 = .region 27 R5_27 false) (l := [0]) rfl ?_
            refine lj 4 R5_27_N rfl rfl rfl (opv_assign rfl rfl rfl) ?_
            refine aops_nil ?_
            exact ago_retE (rfl : C5_82 = .ret) (r := false) (ares_1 rfl (oneT rfl)) rfl H
          replace H := cnd_f H hb211
          refine ago_skipE (rfl : C5_83 = .skip) ?_
          refine ago_seqE (rfl : C5_84 = .seq C5_85 C5_105) ?_
          refine ago_seqE (rfl : C5_85 = .seq C5_86 C5_87) ?_
          refine ago_cut (fun ρ => ρ 0 = l_0 ∧ ρ 6 = .int .i64 n_6 ∧ ρ 9 = r_9 ∧ ρ 13 = .int .i64 k_13 ∧ True) ⟨h0, h6, h9, h13, trivial⟩ (fun ρ ⟨h0, h6, h9, h13, _⟩ => ?_)
          refine ago_regE (rfl : C5_86 = .region 28 R5_28 false) (l := [0]) rfl ?_
          refine lj 14 R5_28_N rfl rfl rfl (opv_assign rfl rfl rfl) ?_
          refine aops_nil ?_
          refine ago_blockE (rfl : C5_87 = .block 4 C5_88) ?_
          refine ago_loopE (rfl : C5_88 = .loop C5_89) ?_
          obtain ⟨n, H⟩ := H
          exact S5_6_ok Q E  n _ l_0 n_6 r_9 k_13 0 aw h0 h6 h9 h13 rfl H
        · replace H := cnd_f H hb200
          refine ls 114 R5_26_N rfl rfl ⟨_, rfl, .inl ⟨_, rfl, gq hb200 rfl⟩⟩ ?_
          refine ls 115 R5_26_N rfl rfl ⟨_, rfl, .inl ⟨_, rfl, gq hb200 rfl⟩⟩ ?_
          refine ls 116 R5_26_N rfl rfl ⟨_, rfl, .inl ⟨_, rfl, gq hb200 rfl⟩⟩ ?_
          refine lj 117 R5_26_N rfl rfl ⟨_, rfl, .inl ⟨_, rfl, gq hb198 rfl⟩⟩ (ov_pickF rfl rfl rfl rfl rfl hb200 rfl) ?_
          refine lj 118 R5_26_N rfl rfl rfl (ov_pickF rfl rfl rfl rfl rfl hb198 rfl) ?_
          refine aops_nil ?_
          refine ago_condE  (rfl : C5_79 = .cond (.tmp 118) C5_80 C5_83) rfl rfl (fun h => ft h) (fun h => ?_)
          refine ago_skipE (rfl : C5_83 = .skip) ?_
          refine ago_seqE (rfl : C5_84 = .seq C5_85 C5_105) ?_
          refine ago_seqE (rfl : C5_85 = .seq C5_86 C5_87) ?_
          refine ago_cut (fun ρ => ρ 0 = l_0 ∧ ρ 6 = .int .i64 n_6 ∧ ρ 9 = r_9 ∧ ρ 13 = .int .i64 k_13 ∧ True) ⟨h0, h6, h9, h13, trivial⟩ (fun ρ ⟨h0, h6, h9, h13, _⟩ => ?_)
          refine ago_regE (rfl : C5_86 = .region 28 R5_28 false) (l := [0]) rfl ?_
          refine lj 14 R5_28_N rfl rfl rfl (opv_assign rfl rfl rfl) ?_
          refine aops_nil ?_
          refine ago_blockE (rfl : C5_87 = .block 4 C5_88) ?_
          refine ago_loopE (rfl : C5_88 = .loop C5_89) ?_
          obtain ⟨n, H⟩ := H
          exact S5_6_ok Q E  n _ l_0 n_6 r_9 k_13 0 aw h0 h6 h9 h13 rfl H
theorem S5_4_ok (Q : Bool → AW → Prop) (E : List PanicEntry → AW → Prop)  (ρ : Env) (l_0 : Value) (n_6 : Int) (r_9 : Value) (out_11 : ByteArray) (aw : AW) (h0 : ρ 0 = l_0) (h6 : ρ 6 = .int .i64 n_6) (h9 : ρ 9 = r_9) (h11 : ρ 11 = .string out_11) (H : S5_4 Q E  l_0 n_6 r_9 out_11 aw) :
    AGo prog 166 [.code C5_68] ρ [] aw (RR prog f5 166 sh5 Q E) := by
  unfold S5_4 at H
  refine ago_seqE (rfl : C5_68 = .seq C5_69 C5_70) ?_
  refine ago_regE (rfl : C5_69 = .region 23 R5_23 false) (l := [0, 1]) rfl ?_
  refine lj 88 R5_23_N rfl rfl rfl (opv_move rfl rfl h6) ?_
  refine lj 13 R5_23_N rfl rfl rfl (opv_assign rfl rfl rfl) ?_
  refine aops_nil ?_
  refine ago_seqE (rfl : C5_70 = .seq C5_71 C5_76) ?_
  refine ago_seqE (rfl : C5_71 = .seq C5_72 C5_73) ?_
  refine ago_regE (rfl : C5_72 = .region 24 R5_24 false) (l := [0, 1]) rfl ?_
  refine lj 89 R5_24_N rfl rfl rfl (opv_move rfl rfl h6) ?_
  refine lj 90 R5_24_N rfl rfl rfl (opv_gt rfl rfl rfl rfl rfl) ?_
  refine aops_nil ?_
  refine ago_condE  (rfl : C5_73 = .cond (.tmp 90) C5_74 C5_75) rfl rfl (fun hb213 => ?_) (fun hb213 => ?_)
  · replace H := cnd_t H hb213
    refine ago_regE (rfl : C5_74 = .region 25 R5_25 false) (l := [0]) rfl ?_
    refine lj 13 R5_25_N rfl rfl rfl (opv_assign rfl rfl rfl) ?_
    refine aops_nil ?_
    exact S5_5_ok Q E  _ l_0 n_6 r_9 out_11 10 aw h0 h6 h9 h11 rfl H
  replace H := cnd_f H hb213
  refine ago_skipE (rfl : C5_75 = .skip) ?_
  exact S5_5_ok Q E  _ l_0 n_6 r_9 out_11 n_6 aw h0 h6 h9 h11 rfl H
theorem S5_3s_ok (Q : Bool → AW → Prop) (E : List PanicEntry → AW → Prop)  (nx3 : Value → ByteArray → Int → Value → ByteArray → Int → AW → Prop) (L3 : ∀ (ρ : Env) (l_0 : Value) (s_1 : ByteArray) (n_6 : Int) (r_9 : Value) (out_11 : ByteArray) (i_12 : Int) (aw : AW) (h0 : ρ 0 = l_0) (h1 : ρ 1 = .string s_1) (h6 : ρ 6 = .int .i64 n_6) (h9 : ρ 9 = r_9) (h11 : ρ 11 = .string out_11) (h12 : ρ 12 = .int .i64 i_12), nx3 l_0 s_1 n_6 r_9 out_11 i_12 aw → AGo prog 166 [.code C5_52, .inLoop C5_52, .inBlock 2, .code C5_62] ρ [] aw (RR prog f5 166 sh5 Q E)) (ρ : Env) (l_0 : Value) (s_1 : ByteArray) (n_6 : Int) (r_9 : Value) (out_11 : ByteArray) (i_12 : Int) (aw : AW) (h0 : ρ 0 = l_0) (h1 : ρ 1 = .string s_1) (h6 : ρ 6 = .int .i64 n_6) (h9 : ρ 9 = r_9) (h11 : ρ 11 = .string out_11) (h12 : ρ 12 = .int .i64 i_12) (H : S5_3s Q E  nx3 l_0 s_1 n_6 r_9 out_11 i_12 aw) :
    AGo prog 166 [.code C5_52, .inLoop C5_52, .inBlock 2, .code C5_62] ρ [] aw (RR prog f5 166 sh5 Q E) := by
  unfold S5_3s at H
  refine ago_seqE (rfl : C5_52 = .seq C5_53 C5_58) ?_
  refine ago_seqE (rfl : C5_53 = .seq C5_54 C5_55) ?_
  refine ago_regE (rfl : C5_54 = .region 18 R5_18 false) (l := [0, 1, 2, 3, 4, 5, 6]) rfl ?_
  refine lj 71 R5_18_N rfl rfl rfl (opv_move rfl rfl h12) ?_
  refine lj 72 R5_18_N rfl rfl rfl (opv_move rfl rfl h6) ?_
  refine lj 73 R5_18_N rfl rfl rfl (opv_lt rfl rfl rfl rfl rfl) ?_
  refine lj 74 R5_18_N rfl rfl rfl (opv_move rfl rfl rfl) ?_
  rcases Bool.eq_false_or_eq_true (decide (i_12 < n_6)) with hb214 | hb214
  · replace H := cnd_t H hb214
    refine lj 75 R5_18_N rfl rfl ⟨_, rfl, .inl ⟨_, rfl, gq hb214 rfl⟩⟩ (opv_move rfl rfl h12) ?_
    refine lj 76 R5_18_N rfl rfl ⟨_, rfl, .inl ⟨_, rfl, gq hb214 rfl⟩⟩ (opv_lt rfl rfl rfl rfl rfl) ?_
    refine lj 77 R5_18_N rfl rfl rfl (ov_pickT rfl rfl rfl rfl rfl hb214 rfl) ?_
    refine aops_nil ?_
    refine ago_condE  (rfl : C5_55 = .cond (.tmp 77) C5_56 C5_57) rfl rfl (fun hb215 => ?_) (fun hb215 => ?_)
    · replace H := cnd_t H hb215
      refine ago_skipE (rfl : C5_56 = .skip) ?_
      refine ago_seqE (rfl : C5_58 = .seq C5_59 C5_61) ?_
      refine ago_blockE (rfl : C5_59 = .block 3 C5_60) ?_
      refine ago_regE (rfl : C5_60 = .region 20 R5_20 false) (l := [0, 1, 2, 3]) rfl ?_
      refine lj 80 R5_20_N rfl rfl rfl (opv_move rfl rfl h11) ?_
      refine lj 81 R5_20_N rfl rfl rfl (opv_move rfl rfl h1) ?_
      obtain ⟨hz216, H⟩ := H
      refine lj 82 R5_20_N rfl rfl rfl (opv_cat rfl rfl rfl rfl rfl hz216) ?_
      refine lj 11 R5_20_N rfl rfl rfl (opv_assign rfl rfl rfl) ?_
      refine aops_nil ?_
      refine ago_inBlock ?_
      refine ago_regE (rfl : C5_61 = .region 19 R5_19 false) (l := [0, 1, 2]) rfl ?_
      refine lj 78 R5_19_N rfl rfl rfl (opv_move rfl rfl h12) ?_
      refine lj 79 R5_19_N rfl rfl rfl (opv_add rfl rfl rfl rfl rfl) ?_
      refine lj 12 R5_19_N rfl rfl rfl (opv_assign rfl rfl rfl) ?_
      refine aops_nil ?_
      refine ago_inLoop ?_
      exact L3 _ l_0 s_1 n_6 r_9 (out_11 ++ s_1) (IntKind.i64.wrap (i_12 + 1)) aw h0 h1 h6 h9 rfl rfl H
    replace H := cnd_f H hb215
    refine ago_exitE (rfl : C5_57 = .exit 2) rfl ?_
    refine ago_seqE (rfl : C5_62 = .seq C5_63 C5_68) ?_
    refine ago_seqE (rfl : C5_63 = .seq C5_64 C5_65) ?_
    refine ago_regE (rfl : C5_64 = .region 21 R5_21 false) (l := [0, 1, 2]) rfl ?_
    refine lj 83 R5_21_N rfl rfl rfl (opv_move rfl rfl h11) ?_
    refine lj 84 R5_21_N rfl rfl rfl (opv_lenS rfl rfl rfl underlying9 rfl) ?_
    refine lj 85 R5_21_N rfl rfl rfl (opv_gt rfl rfl rfl rfl rfl) ?_
    refine aops_nil ?_
    refine ago_condE  (rfl : C5_65 = .cond (.tmp 85) C5_66 C5_67) rfl rfl (fun hb217 => ?_) (fun hb217 => ?_)
    · replace H := cnd_t H hb217
      refine ago_regE (rfl : C5_66 = .region 22 R5_22 false) (l := [0, 1, 2]) rfl ?_
      refine lj 86 R5_22_N rfl rfl rfl (opv_move rfl rfl h11) ?_
      obtain ⟨s218, hq219, hq220, hq221, hq222, H⟩ := H
      refine lj 87 R5_22_N rfl rfl rfl (ov_cutS rfl rfl underlying9 rfl (bndN _ _ _) (bndS rfl) hq219 hq220 hq221 hq222) ?_
      refine lj 11 R5_22_N rfl rfl rfl (opv_assign rfl rfl rfl) ?_
      refine aops_nil ?_
      exact S5_4_ok Q E  _ l_0 n_6 r_9 s218 aw h0 h6 h9 rfl H
    replace H := cnd_f H hb217
    refine ago_skipE (rfl : C5_67 = .skip) ?_
    exact S5_4_ok Q E  _ l_0 n_6 r_9 out_11 aw h0 h6 h9 h11 H
  · replace H := cnd_f H hb214
    refine ls 75 R5_18_N rfl rfl ⟨_, rfl, .inl ⟨_, rfl, gq hb214 rfl⟩⟩ ?_
    refine ls 76 R5_18_N rfl rfl ⟨_, rfl, .inl ⟨_, rfl, gq hb214 rfl⟩⟩ ?_
    refine lj 77 R5_18_N rfl rfl rfl (ov_pickF rfl rfl rfl rfl rfl hb214 rfl) ?_
    refine aops_nil ?_
    refine ago_condE  (rfl : C5_55 = .cond (.tmp 77) C5_56 C5_57) rfl rfl (fun h => ft h) (fun h => ?_)
    refine ago_exitE (rfl : C5_57 = .exit 2) rfl ?_
    refine ago_seqE (rfl : C5_62 = .seq C5_63 C5_68) ?_
    refine ago_seqE (rfl : C5_63 = .seq C5_64 C5_65) ?_
    refine ago_regE (rfl : C5_64 = .region 21 R5_21 false) (l := [0, 1, 2]) rfl ?_
    refine lj 83 R5_21_N rfl rfl rfl (opv_move rfl rfl h11) ?_
    refine lj 84 R5_21_N rfl rfl rfl (opv_lenS rfl rfl rfl underlying9 rfl) ?_
    refine lj 85 R5_21_N rfl rfl rfl (opv_gt rfl rfl rfl rfl rfl) ?_
    refine aops_nil ?_
    refine ago_condE  (rfl : C5_65 = .cond (.tmp 85) C5_66 C5_67) rfl rfl (fun hb224 => ?_) (fun hb224 => ?_)
    · replace H := cnd_t H hb224
      refine ago_regE (rfl : C5_66 = .region 22 R5_22 false) (l := [0, 1, 2]) rfl ?_
      refine lj 86 R5_22_N rfl rfl rfl (opv_move rfl rfl h11) ?_
      obtain ⟨s225, hq226, hq227, hq228, hq229, H⟩ := H
      refine lj 87 R5_22_N rfl rfl rfl (ov_cutS rfl rfl underlying9 rfl (bndN _ _ _) (bndS rfl) hq226 hq227 hq228 hq229) ?_
      refine lj 11 R5_22_N rfl rfl rfl (opv_assign rfl rfl rfl) ?_
      refine aops_nil ?_
      exact S5_4_ok Q E  _ l_0 n_6 r_9 s225 aw h0 h6 h9 rfl H
    replace H := cnd_f H hb224
    refine ago_skipE (rfl : C5_67 = .skip) ?_
    exact S5_4_ok Q E  _ l_0 n_6 r_9 out_11 aw h0 h6 h9 h11 H
theorem S5_3_ok (Q : Bool → AW → Prop) (E : List PanicEntry → AW → Prop)  : ∀ (n : Nat) (ρ : Env) (l_0 : Value) (s_1 : ByteArray) (n_6 : Int) (r_9 : Value) (out_11 : ByteArray) (i_12 : Int) (aw : AW) (h0 : ρ 0 = l_0) (h1 : ρ 1 = .string s_1) (h6 : ρ 6 = .int .i64 n_6) (h9 : ρ 9 = r_9) (h11 : ρ 11 = .string out_11) (h12 : ρ 12 = .int .i64 i_12), S5_3 Q E  n l_0 s_1 n_6 r_9 out_11 i_12 aw →
    AGo prog 166 [.code C5_52, .inLoop C5_52, .inBlock 2, .code C5_62] ρ [] aw (RR prog f5 166 sh5 Q E)
  | 0, _, _, _, _, _, _, _, _, _, _, _, _, _, _ => fun H => H.elim
  | n + 1, ρ, l_0, s_1, n_6, r_9, out_11, i_12, aw, h0, h1, h6, h9, h11, h12 => fun H => S5_3s_ok Q E  _ (S5_3_ok Q E  n) ρ l_0 s_1 n_6 r_9 out_11 i_12 aw h0 h1 h6 h9 h11 h12 H
theorem S5_2_ok (Q : Bool → AW → Prop) (E : List PanicEntry → AW → Prop) (nx1 : Value → ByteArray → Value → Int → Int → AW → Prop) (L1 : ∀ (ρ : Env) (l_0 : Value) (s_1 : ByteArray) (ins_5 : Value) (n_6 : Int) (i_7 : Int) (aw : AW) (h0 : ρ 0 = l_0) (h1 : ρ 1 = .string s_1) (h5 : ρ 5 = ins_5) (h6 : ρ 6 = .int .i64 n_6) (h7 : ρ 7 = .int .i64 i_7), nx1 l_0 s_1 ins_5 n_6 i_7 aw → AGo prog 166 [.code C5_19, .inLoop C5_19, .inBlock 0, .code C5_41] ρ [] aw (RR prog f5 166 sh5 Q E)) (ρ : Env) (l_0 : Value) (s_1 : ByteArray) (ins_5 : Value) (n_6 : Int) (i_7 : Int) (t_30 : Bool) (aw : AW) (h0 : ρ 0 = l_0) (h1 : ρ 1 = .string s_1) (h5 : ρ 5 = ins_5) (h6 : ρ 6 = .int .i64 n_6) (h7 : ρ 7 = .int .i64 i_7) (h30 : ρ 30 = .bool t_30) (H : S5_2 Q E nx1 l_0 s_1 ins_5 n_6 i_7 t_30 aw) :
    AGo prog 166 [.code C5_22, .code C5_25, .inLoop C5_19, .inBlock 0, .code C5_41] ρ [] aw (RR prog f5 166 sh5 Q E) := by
  unfold S5_2 at H
  refine ago_condE  (rfl : C5_22 = .cond (.tmp 30) C5_23 C5_24) rfl h30 (fun hb230 => ?_) (fun hb230 => ?_)
  · replace H := cnd_t H hb230
    refine ago_skipE (rfl : C5_23 = .skip) ?_
    refine ago_seqE (rfl : C5_25 = .seq C5_26 C5_40) ?_
    refine ago_blockE (rfl : C5_26 = .block 1 C5_27) ?_
    refine ago_seqE (rfl : C5_27 = .seq C5_28 C5_29) ?_
    refine ago_regE (rfl : C5_28 = .region 8 R5_8 false) (l := [0]) rfl ?_
    refine lj 8 R5_8_N rfl rfl rfl (opv_assign rfl rfl rfl) ?_
    refine aops_nil ?_
    refine ago_seqE (rfl : C5_29 = .seq C5_30 C5_35) ?_
    refine ago_seqE (rfl : C5_30 = .seq C5_31 C5_32) ?_
    refine ago_regE (rfl : C5_31 = .region 9 R5_9 false) (l := [0, 1, 2, 3, 4]) rfl ?_
    refine lj 33 R5_9_N rfl rfl rfl (opv_move rfl rfl h0) ?_
    refine lj 34 R5_9_N rfl rfl rfl (opv_move rfl rfl h7) ?_
    obtain ⟨b232, i233, l234, c235, p231, hp236, h0237, hj238, hv239, H⟩ := H
    refine lj 35 R5_9_N rfl rfl rfl (ov_ixS rfl rfl rfl underlying27 sz48 rfl rfl hp236 h0237 hj238 hv239) ?_
    obtain ⟨b241, i242, p240, hp243, hv244, H⟩ := H
    refine lj 36 R5_9_N rfl rfl rfl (ov_fldA rfl rfl underlying48 rfl sz4 (by decide) rfl hp243 rfl hv244) ?_
    obtain ⟨b245, i246, x248, hp247, hg249, H⟩ := H
    refine lj 37 R5_9_N rfl rfl rfl (ov_ldB rfl underlying4 rfl rfl hp247 hg249) ?_
    refine aops_nil ?_
    refine ago_condE  (rfl : C5_32 = .cond (.tmp 37) C5_33 C5_34) rfl rfl (fun hb250 => ?_) (fun hb250 => ?_)
    · replace H := cnd_t H hb250
      refine ago_regE (rfl : C5_33 = .region 10 R5_10 false) (l := [0]) rfl ?_
      refine lj 8 R5_10_N rfl rfl rfl (opv_assign rfl rfl rfl) ?_
      refine aops_nil ?_
      exact S5_7_ok Q E nx1 L1 _ l_0 s_1 ins_5 n_6 i_7 7 aw h0 h1 h5 h6 h7 rfl H
    replace H := cnd_f H hb250
    refine ago_skipE (rfl : C5_34 = .skip) ?_
    exact S5_7_ok Q E nx1 L1 _ l_0 s_1 ins_5 n_6 i_7 2 aw h0 h1 h5 h6 h7 rfl H
  replace H := cnd_f H hb230
  refine ago_exitE (rfl : C5_24 = .exit 0) rfl ?_
  refine ago_seqE (rfl : C5_41 = .seq C5_42 C5_43) ?_
  refine ago_regE (rfl : C5_42 = .region 14 R5_14 false) (l := [0, 1, 2, 3, 4, 5]) rfl ?_
  refine lj 61 R5_14_N rfl rfl rfl (opv_move rfl rfl h5) ?_
  refine lj 62 R5_14_N rfl rfl rfl (ov_bld (r := [.int .u8 0, .int .i64 0, .int .i64 0, .string (⟨#[]⟩ : ByteArray)]) rfl rfl bo34 rfl (fillN rfl)) ?_
  refine lj 63 R5_14_N rfl rfl rfl (ov_bld (r := [.int .u8 8, .int .i64 0, .int .i64 0, .string (⟨#[]⟩ : ByteArray)]) rfl rfl bo34 (mp_cons rfl rfl) (fillP rfl rfl rfl rfl (fillN rfl))) ?_
  obtain ⟨p251, aw252, hp253, ha254, H⟩ := H
  refine lj 64 R5_14_N rfl rfl rfl (ov_bsA (r := [.int .u8 0, .int .i64 0, .int .i64 0, .string (⟨#[]⟩ : ByteArray), .int .u8 8, .int .i64 0, .int .i64 0, .string (⟨#[]⟩ : ByteArray)]) (vs := [.agg #[.int .u8 0, .int .i64 0, .int .i64 0, .string (⟨#[]⟩ : ByteArray)], .agg #[.int .u8 8, .int .i64 0, .int .i64 0, .string (⟨#[]⟩ : ByteArray)]]) rfl rfl underlying35 sz34 z34 rfl rfl rfl rfl rfl (mp_cons rfl (mp_cons rfl rfl)) (.cons (v := .agg #[.int .u8 0, .int .i64 0, .int .i64 0, .string (⟨#[]⟩ : ByteArray)]) (xs := [.int .u8 0, .int .i64 0, .int .i64 0, .string (⟨#[]⟩ : ByteArray)]) (r := [.int .u8 8, .int .i64 0, .int .i64 0, .string (⟨#[]⟩ : ByteArray)]) rfl rfl (.cons (v := .agg #[.int .u8 8, .int .i64 0, .int .i64 0, .string (⟨#[]⟩ : ByteArray)]) (xs := [.int .u8 8, .int .i64 0, .int .i64 0, .string (⟨#[]⟩ : ByteArray)]) (r := []) rfl rfl .nil)) hp253 ha254) ?_
  obtain ⟨v255, aw256, hq257, H⟩ := H
  refine lj 65 R5_14_N rfl rfl rfl (ov_app rfl rfl rfl rfl underlying35 sz34 by34 underlying35 rfl z34 rfl (by decide) (by decide) rfl rfl hq257) ?_
  refine lj 5 R5_14_N rfl rfl rfl (opv_assign rfl rfl rfl) ?_
  refine aops_nil ?_
  refine ago_seqE (rfl : C5_43 = .seq C5_44 C5_45) ?_
  refine ago_regE (rfl : C5_44 = .region 15 R5_15 false) (l := [0, 1, 2, 3, 4, 5, 6, 7]) rfl ?_
  refine lj 67 R5_15_N rfl rfl rfl (opv_move rfl rfl rfl) ?_
  refine lc 68 R5_15_N rfl rfl rfl (opc_of rfl rfl is13 (ma_cons rfl (ma_cons rfl rfl))) H (fun _ _ h => ⟨rfl, h⟩) fun r258 aw259 H => ?_
  refine lj 66 R5_15_N rfl rfl rfl (opv_move rfl rfl rfl) ?_
  refine lj 69 R5_15_N rfl rfl rfl (opv_extract rfl rfl rfl rfl) ?_
  refine lj 70 R5_15_N rfl rfl rfl (opv_extract rfl rfl rfl rfl) ?_
  obtain ⟨p260, aw261, hp262, ha263, H⟩ := H
  refine lj 9 R5_15_N rfl rfl rfl (ov_alloc rfl z29 rfl rfl hp262 ha263) ?_
  obtain ⟨b265, i266, aw264, hp267, hw268, ho269, ha270, H⟩ := H
  refine lk (dt := none) R5_15_N rfl rfl rfl (ov_st rfl rfl rfl rfl rfl rfl sz29 hp267 hw268 ho269 ha270) ?_
  refine lj 10 R5_15_N rfl rfl rfl (opv_assign rfl rfl rfl) ?_
  refine aops_nil ?_
  refine ago_seqE (rfl : C5_45 = .seq C5_46 C5_47) ?_
  refine ago_cut (fun ρ => ρ 0 = l_0 ∧ ρ 1 = .string s_1 ∧ ρ 6 = .int .i64 n_6 ∧ ρ 9 = p260 ∧ True) ⟨h0, h1, h6, rfl, trivial⟩ (fun ρ ⟨h0, h1, h6, h9, _⟩ => ?_)
  refine ago_regE (rfl : C5_46 = .region 16 R5_16 false) (l := [0]) rfl ?_
  refine lj 11 R5_16_N rfl rfl rfl (opv_assign rfl rfl rfl) ?_
  refine aops_nil ?_
  refine ago_seqE (rfl : C5_47 = .seq C5_48 C5_62) ?_
  refine ago_seqE (rfl : C5_48 = .seq C5_49 C5_50) ?_
  refine ago_regE (rfl : C5_49 = .region 17 R5_17 false) (l := [0]) rfl ?_
  refine lj 12 R5_17_N rfl rfl rfl (opv_assign rfl rfl rfl) ?_
  refine aops_nil ?_
  refine ago_blockE (rfl : C5_50 = .block 2 C5_51) ?_
  refine ago_loopE (rfl : C5_51 = .loop C5_52) ?_
  obtain ⟨n, H⟩ := H
  exact S5_3_ok Q E  n _ l_0 s_1 n_6 p260 (⟨#[]⟩ : ByteArray) 0 aw264 h0 h1 h6 h9 rfl rfl H
theorem S5_1s_ok (Q : Bool → AW → Prop) (E : List PanicEntry → AW → Prop)  (nx1 : Value → ByteArray → Value → Int → Int → AW → Prop) (L1 : ∀ (ρ : Env) (l_0 : Value) (s_1 : ByteArray) (ins_5 : Value) (n_6 : Int) (i_7 : Int) (aw : AW) (h0 : ρ 0 = l_0) (h1 : ρ 1 = .string s_1) (h5 : ρ 5 = ins_5) (h6 : ρ 6 = .int .i64 n_6) (h7 : ρ 7 = .int .i64 i_7), nx1 l_0 s_1 ins_5 n_6 i_7 aw → AGo prog 166 [.code C5_19, .inLoop C5_19, .inBlock 0, .code C5_41] ρ [] aw (RR prog f5 166 sh5 Q E)) (ρ : Env) (l_0 : Value) (s_1 : ByteArray) (ins_5 : Value) (n_6 : Int) (i_7 : Int) (aw : AW) (h0 : ρ 0 = l_0) (h1 : ρ 1 = .string s_1) (h5 : ρ 5 = ins_5) (h6 : ρ 6 = .int .i64 n_6) (h7 : ρ 7 = .int .i64 i_7) (H : S5_1s Q E  nx1 l_0 s_1 ins_5 n_6 i_7 aw) :
    AGo prog 166 [.code C5_19, .inLoop C5_19, .inBlock 0, .code C5_41] ρ [] aw (RR prog f5 166 sh5 Q E) := by
  unfold S5_1s at H
  refine ago_seqE (rfl : C5_19 = .seq C5_20 C5_25) ?_
  refine ago_seqE (rfl : C5_20 = .seq C5_21 C5_22) ?_
  refine ago_regE (rfl : C5_21 = .region 6 R5_6 false) (l := [0, 1, 2, 3, 4, 5, 6, 7]) rfl ?_
  refine lj 23 R5_6_N rfl rfl rfl (opv_move rfl rfl h7) ?_
  refine lj 24 R5_6_N rfl rfl rfl (opv_move rfl rfl h0) ?_
  obtain ⟨q272, l273, c274, n271, hv275, hn276, H⟩ := H
  refine lj 25 R5_6_N rfl rfl rfl (ov_len rfl rfl rfl underlying27 rfl hv275 hn276) ?_
  refine lj 26 R5_6_N rfl rfl rfl (opv_lt rfl rfl rfl rfl rfl) ?_
  refine lj 27 R5_6_N rfl rfl rfl (opv_move rfl rfl rfl) ?_
  rcases Bool.eq_false_or_eq_true (decide (i_7 < n271)) with hb277 | hb277
  · replace H := cnd_t H hb277
    refine lj 28 R5_6_N rfl rfl ⟨_, rfl, .inl ⟨_, rfl, gq hb277 rfl⟩⟩ (opv_move rfl rfl h7) ?_
    refine lj 29 R5_6_N rfl rfl ⟨_, rfl, .inl ⟨_, rfl, gq hb277 rfl⟩⟩ (opv_lt rfl rfl rfl rfl rfl) ?_
    refine lj 30 R5_6_N rfl rfl rfl (ov_pickT rfl rfl rfl rfl rfl hb277 rfl) ?_
    refine aops_nil ?_
    exact S5_2_ok Q E nx1 L1 _ l_0 s_1 ins_5 n_6 i_7 (decide (i_7 < 14)) aw h0 h1 h5 h6 h7 rfl H
  · replace H := cnd_f H hb277
    refine ls 28 R5_6_N rfl rfl ⟨_, rfl, .inl ⟨_, rfl, gq hb277 rfl⟩⟩ ?_
    refine ls 29 R5_6_N rfl rfl ⟨_, rfl, .inl ⟨_, rfl, gq hb277 rfl⟩⟩ ?_
    refine lj 30 R5_6_N rfl rfl rfl (ov_pickF rfl rfl rfl rfl rfl hb277 rfl) ?_
    refine aops_nil ?_
    exact S5_2_ok Q E nx1 L1 _ l_0 s_1 ins_5 n_6 i_7 false aw h0 h1 h5 h6 h7 rfl H
theorem S5_1_ok (Q : Bool → AW → Prop) (E : List PanicEntry → AW → Prop)  : ∀ (n : Nat) (ρ : Env) (l_0 : Value) (s_1 : ByteArray) (ins_5 : Value) (n_6 : Int) (i_7 : Int) (aw : AW) (h0 : ρ 0 = l_0) (h1 : ρ 1 = .string s_1) (h5 : ρ 5 = ins_5) (h6 : ρ 6 = .int .i64 n_6) (h7 : ρ 7 = .int .i64 i_7), S5_1 Q E  n l_0 s_1 ins_5 n_6 i_7 aw →
    AGo prog 166 [.code C5_19, .inLoop C5_19, .inBlock 0, .code C5_41] ρ [] aw (RR prog f5 166 sh5 Q E)
  | 0, _, _, _, _, _, _, _, _, _, _, _, _ => fun H => H.elim
  | n + 1, ρ, l_0, s_1, ins_5, n_6, i_7, aw, h0, h1, h5, h6, h7 => fun H => S5_1s_ok Q E  _ (S5_1_ok Q E  n) ρ l_0 s_1 ins_5 n_6 i_7 aw h0 h1 h5 h6 h7 H
theorem S5_0_ok (Q : Bool → AW → Prop) (E : List PanicEntry → AW → Prop)  (ρ : Env) (l_0 : Value) (s_1 : ByteArray) (aw : AW) (h0 : ρ 0 = l_0) (h1 : ρ 1 = .string s_1) (H : S5_0 Q E  l_0 s_1 aw) :
    AGo prog 166 [.code C5_0] ρ [] aw (RR prog f5 166 sh5 Q E) := by
  unfold S5_0 at H
  refine ago_seqE (rfl : C5_0 = .seq C5_1 C5_2) ?_
  refine ago_regE (rfl : C5_1 = .region 0 R5_0 false) (l := [0]) rfl ?_
  refine lj 4 R5_0_N rfl rfl rfl (opv_assign rfl rfl rfl) ?_
  refine aops_nil ?_
  refine ago_seqE (rfl : C5_2 = .seq C5_3 C5_10) ?_
  refine ago_seqE (rfl : C5_3 = .seq C5_4 C5_5) ?_
  refine ago_regE (rfl : C5_4 = .region 1 R5_1 false) (l := [0, 1, 2, 3, 4, 5, 6]) rfl ?_
  refine lc 15 R5_1_N rfl rfl rfl (opc_of rfl rfl is11 rfl) H (fun _ _ h => ⟨rfl, h⟩) fun r278 aw279 H => ?_
  refine lj 16 R5_1_N rfl rfl rfl (opv_not rfl rfl rfl) ?_
  refine lj 17 R5_1_N rfl rfl rfl (opv_move rfl rfl rfl) ?_
  rcases Bool.eq_false_or_eq_true (!r278) with hb280 | hb280
  · replace H := cnd_t H hb280
    refine ls 18 R5_1_N rfl rfl ⟨_, rfl, .inl ⟨_, rfl, gq hb280 rfl⟩⟩ ?_
    refine ls 19 R5_1_N rfl rfl ⟨_, rfl, .inl ⟨_, rfl, gq hb280 rfl⟩⟩ ?_
    refine ls 20 R5_1_N rfl rfl ⟨_, rfl, .inl ⟨_, rfl, gq hb280 rfl⟩⟩ ?_
    refine lj 21 R5_1_N rfl rfl rfl (ov_pickT rfl rfl rfl rfl rfl hb280 rfl) ?_
    refine aops_nil ?_
    refine ago_condE  (rfl : C5_5 = .cond (.tmp 21) C5_6 C5_9) rfl rfl (fun h => ?_) (fun h => tf h)
    refine ago_seqE (rfl : C5_6 = .seq C5_7 C5_8) ?_
    refine ago_regE (rfl : C5_7 = .region 2 R5_2 false) (l := [0, 1]) rfl ?_
    refine lc 22 R5_2_N rfl rfl rfl (opc_of rfl rfl is11 rfl) H (fun _ _ h => ⟨rfl, h⟩) fun r282 aw283 H => ?_
    refine lj 4 R5_2_N rfl rfl rfl (opv_assign rfl rfl rfl) ?_
    refine aops_nil ?_
    exact ago_retE (rfl : C5_8 = .ret) (r := r282) (ares_1 rfl (oneT rfl)) rfl H
  · replace H := cnd_f H hb280
    refine lj 18 R5_1_N rfl rfl ⟨_, rfl, .inl ⟨_, rfl, gq hb280 rfl⟩⟩ (opv_move rfl rfl h1) ?_
    refine lj 19 R5_1_N rfl rfl ⟨_, rfl, .inl ⟨_, rfl, gq hb280 rfl⟩⟩ (opv_lenS rfl rfl rfl underlying9 rfl) ?_
    refine lj 20 R5_1_N rfl rfl ⟨_, rfl, .inl ⟨_, rfl, gq hb280 rfl⟩⟩ (opv_gt rfl rfl rfl rfl rfl) ?_
    refine lj 21 R5_1_N rfl rfl rfl (ov_pickF rfl rfl rfl rfl rfl hb280 rfl) ?_
    refine aops_nil ?_
    refine ago_condE  (rfl : C5_5 = .cond (.tmp 21) C5_6 C5_9) rfl rfl (fun hb284 => ?_) (fun hb284 => ?_)
    · replace H := cnd_t H hb284
      refine ago_seqE (rfl : C5_6 = .seq C5_7 C5_8) ?_
      refine ago_regE (rfl : C5_7 = .region 2 R5_2 false) (l := [0, 1]) rfl ?_
      refine lc 22 R5_2_N rfl rfl rfl (opc_of rfl rfl is11 rfl) H (fun _ _ h => ⟨rfl, h⟩) fun r285 aw286 H => ?_
      refine lj 4 R5_2_N rfl rfl rfl (opv_assign rfl rfl rfl) ?_
      refine aops_nil ?_
      exact ago_retE (rfl : C5_8 = .ret) (r := r285) (ares_1 rfl (oneT rfl)) rfl H
    replace H := cnd_f H hb284
    refine ago_skipE (rfl : C5_9 = .skip) ?_
    refine ago_seqE (rfl : C5_10 = .seq C5_11 C5_12) ?_
    refine ago_regE (rfl : C5_11 = .region 3 R5_3 false) (l := [0]) rfl ?_
    refine lj 5 R5_3_N rfl rfl rfl (opv_assign rfl rfl rfl) ?_
    refine aops_nil ?_
    refine ago_seqE (rfl : C5_12 = .seq C5_13 C5_14) ?_
    refine ago_regE (rfl : C5_13 = .region 4 R5_4 false) (l := [0]) rfl ?_
    refine lj 6 R5_4_N rfl rfl rfl (opv_assign rfl rfl rfl) ?_
    refine aops_nil ?_
    refine ago_seqE (rfl : C5_14 = .seq C5_15 C5_41) ?_
    refine ago_seqE (rfl : C5_15 = .seq C5_16 C5_17) ?_
    refine ago_regE (rfl : C5_16 = .region 5 R5_5 false) (l := [0]) rfl ?_
    refine lj 7 R5_5_N rfl rfl rfl (opv_assign rfl rfl rfl) ?_
    refine aops_nil ?_
    refine ago_blockE (rfl : C5_17 = .block 0 C5_18) ?_
    refine ago_loopE (rfl : C5_18 = .loop C5_19) ?_
    obtain ⟨n, H⟩ := H
    exact S5_1_ok Q E  n _ l_0 s_1 (.slice none 0 0) 0 0 aw279 h0 h1 rfl rfl rfl H
theorem F5_ok {Q : Bool → AW → Prop} {E : List PanicEntry → AW → Prop} (l_0 : Value) (s_1 : ByteArray) (aw : AW) (H : S5_0 Q E l_0 s_1 aw) : CallP prog 5 [l_0, .string s_1] aw sh5 Q E :=
  callP_of func5 C5_is rfl (Nat.le_of_ble_eq_true rfl) (S5_0_ok Q E _ l_0 s_1 aw rfl rfl H)
def C12_0 := bodyOf f12
theorem C12_is : f12.body = some C12_0 := by kernel_rfl
def C12_1 := cl C12_0
def R12_0 := regOps C12_1
def C12_2 := cr C12_0
def C12_3 := cl C12_2
def R12_1 := regOps C12_3
def C12_4 := cr C12_2
theorem R12_0_N : dstsOk 6 R12_0 = true := by decide +kernel
theorem R12_1_N : dstsOk 6 R12_1 = true := by decide +kernel
def S12_0 (Q : Int → AW → Prop) (E : List PanicEntry → AW → Prop)  (n_0 : Int) (aw : AW) : Prop :=
  Q (Int.fdiv (IntKind.i64.wrap (n_0 * 2 ^ (min (1 : Int).toNat IntKind.i64.bits))) (2 ^ (min (1 : Int).toNat IntKind.i64.bits))) aw
theorem S12_0_ok (Q : Int → AW → Prop) (E : List PanicEntry → AW → Prop)  (ρ : Env) (n_0 : Int) (aw : AW) (h0 : ρ 0 = .int .i64 n_0) (H : S12_0 Q E  n_0 aw) :
    AGo prog 6 [.code C12_0] ρ [] aw (RR prog f12 6 sh12 Q E) := by
  unfold S12_0 at H
  refine ago_seqE (rfl : C12_0 = .seq C12_1 C12_2) ?_
  refine ago_regE (rfl : C12_1 = .region 0 R12_0 false) (l := [0]) rfl ?_
  refine lj 2 R12_0_N rfl rfl rfl (opv_assign rfl rfl rfl) ?_
  refine aops_nil ?_
  refine ago_seqE (rfl : C12_2 = .seq C12_3 C12_4) ?_
  refine ago_regE (rfl : C12_3 = .region 1 R12_1 false) (l := [0, 1, 2, 3]) rfl ?_
  refine lj 3 R12_1_N rfl rfl rfl (opv_move rfl rfl h0) ?_
  refine lj 4 R12_1_N rfl rfl rfl (opv_shl rfl rfl rfl rfl rfl (by decide)) ?_
  refine lj 5 R12_1_N rfl rfl rfl (opv_shr rfl rfl rfl rfl rfl (by decide)) ?_
  refine lj 2 R12_1_N rfl rfl rfl (opv_assign rfl rfl rfl) ?_
  refine aops_nil ?_
  exact ago_retE (rfl : C12_4 = .ret) (r := (Int.fdiv (IntKind.i64.wrap (n_0 * 2 ^ (min (1 : Int).toNat IntKind.i64.bits))) (2 ^ (min (1 : Int).toNat IntKind.i64.bits)))) (ares_1 rfl (oneT rfl)) rfl H
theorem F12_ok {Q : Int → AW → Prop} {E : List PanicEntry → AW → Prop} (n_0 : Int) (aw : AW) (H : S12_0 Q E n_0 aw) : CallP prog 12 [.int .i64 n_0] aw sh12 Q E :=
  callP_of func12 C12_is rfl (Nat.le_of_ble_eq_true rfl) (S12_0_ok Q E _ n_0 aw rfl H)
def C13_0 := bodyOf f13
theorem C13_is : f13.body = some C13_0 := by kernel_rfl
def C13_1 := cl C13_0
def R13_0 := regOps C13_1
def C13_2 := cr C13_0
def C13_3 := cl C13_2
def R13_1 := regOps C13_3
def C13_4 := cr C13_2
def C13_5 := cl C13_4
def C13_6 := cl C13_5
def R13_2 := regOps C13_6
def C13_7 := cr C13_5
def C13_8 := cl C13_7
def C13_9 := cl C13_8
def R13_3 := regOps C13_9
def C13_10 := cr C13_8
def C13_11 := cr C13_7
def C13_12 := cr C13_4
def C13_13 := cl C13_12
def R13_4 := regOps C13_13
def C13_14 := cr C13_12
theorem R13_0_N : dstsOk 27 R13_0 = true := by decide +kernel
theorem R13_1_N : dstsOk 27 R13_1 = true := by decide +kernel
theorem R13_2_N : dstsOk 27 R13_2 = true := by decide +kernel
theorem R13_3_N : dstsOk 27 R13_3 = true := by decide +kernel
theorem R13_4_N : dstsOk 27 R13_4 = true := by decide +kernel
def S13_0 (Q : (Int × Int × ByteArray × ByteArray × Value × Int × Value) → AW → Prop) (E : List PanicEntry → AW → Prop)  (l_0 : Value) (fuel_1 : Int) (aw : AW) : Prop :=
  alc aw [.int .i64 0, .int .u64 0, .string (⟨#[]⟩ : ByteArray), .string (⟨#[]⟩ : ByteArray), (.slice none 0 0), .int .i64 0] 29 0 fun p1 aw2 =>
  CallP prog 15 [.int .i64 4000, .int .i64 8] aw2 sh15 (fun r5 aw6 =>
  cnd (!decide (r5.2 = 0)) (st aw6 p1 [.int .i64 3, .int .u64 0, .string (⟨#[]⟩ : ByteArray), .string (⟨#[]⟩ : ByteArray), (.slice none 0 0), .int .i64 0] fun aw9 =>
  ptr p1 fun b16 i17 => gI .i64 aw9 b16 i17 fun c19 => gI .u64 aw9 b16 (i17 + 1) fun c20 => gS aw9 b16 (i17 + 2) fun c21 => gS aw9 b16 (i17 + 3) fun c22 => gV aw9 b16 (i17 + 4) fun c23 => gI .i64 aw9 b16 (i17 + 5) fun c24 => Q (c19, c20, c21, c22, c23, c24, (.pointer none)) aw9) (one l_0 = true ∧ alcS aw6 [.int .i64 0, l_0] 43 2 1 fun p32 aw33 =>
  CallP prog 16 [r5.1, p32] aw33 sh16 (fun r36 aw37 =>
  cnd (!decide (r36 = 0)) (False) (CallP prog 17 [r5.1, .int .i64 0, .int .i64 fuel_1, .int .i64 10, .int .i64 50] aw37 sh17 (fun r39 aw40 =>
  st aw40 p1 [.int .i64 r39.1, .int .u64 r39.2.1, .string r39.2.2.1, .string r39.2.2.2.1, r39.2.2.2.2.1, .int .i64 r39.2.2.2.2.2] fun aw41 =>
  ptr p1 fun b48 i49 => gI .i64 aw41 b48 i49 fun c51 => gI .u64 aw41 b48 (i49 + 1) fun c52 => gS aw41 b48 (i49 + 2) fun c53 => gS aw41 b48 (i49 + 3) fun c54 => gV aw41 b48 (i49 + 4) fun c55 => gI .i64 aw41 b48 (i49 + 5) fun c56 => Q (c51, c52, c53, c54, c55, c56, r5.1) aw41) E)) E)) E
theorem S13_0_ok (Q : (Int × Int × ByteArray × ByteArray × Value × Int × Value) → AW → Prop) (E : List PanicEntry → AW → Prop)  (ρ : Env) (l_0 : Value) (fuel_1 : Int) (aw : AW) (h0 : ρ 0 = l_0) (h1 : ρ 1 = .int .i64 fuel_1) (H : S13_0 Q E  l_0 fuel_1 aw) :
    AGo prog 27 [.code C13_0] ρ [] aw (RR prog f13 27 sh13 Q E) := by
  unfold S13_0 at H
  refine ago_seqE (rfl : C13_0 = .seq C13_1 C13_2) ?_
  refine ago_regE (rfl : C13_1 = .region 0 R13_0 false) (l := [0, 1]) rfl ?_
  obtain ⟨p1, aw2, hp3, ha4, H⟩ := H
  refine lj 4 R13_0_N rfl rfl rfl (ov_alloc rfl z29 rfl rfl hp3 ha4) ?_
  refine lj 5 R13_0_N rfl rfl rfl (opv_assign rfl rfl rfl) ?_
  refine aops_nil ?_
  refine ago_seqE (rfl : C13_2 = .seq C13_3 C13_4) ?_
  refine ago_regE (rfl : C13_3 = .region 1 R13_1 false) (l := [0, 1, 2, 3, 4, 5]) rfl ?_
  refine lc 9 R13_1_N rfl rfl rfl (opc_of rfl rfl is15 (ma_cons rfl (ma_cons rfl rfl))) H (fun _ _ h => ⟨rfl, h⟩) fun r5 aw6 H => ?_
  refine lj 8 R13_1_N rfl rfl rfl (opv_move rfl rfl rfl) ?_
  refine lj 10 R13_1_N rfl rfl rfl (opv_extract rfl rfl rfl rfl) ?_
  refine lj 11 R13_1_N rfl rfl rfl (opv_extract rfl rfl rfl rfl) ?_
  refine lj 6 R13_1_N rfl rfl rfl (opv_assign rfl rfl rfl) ?_
  refine lj 7 R13_1_N rfl rfl rfl (opv_assign rfl rfl rfl) ?_
  refine aops_nil ?_
  refine ago_seqE (rfl : C13_4 = .seq C13_5 C13_12) ?_
  refine ago_seqE (rfl : C13_5 = .seq C13_6 C13_7) ?_
  refine ago_regE (rfl : C13_6 = .region 2 R13_2 false) (l := [0, 1, 2, 3, 4, 5, 6, 7, 8, 9]) rfl ?_
  refine lj 12 R13_2_N rfl rfl rfl (opv_move rfl rfl rfl) ?_
  refine lj 13 R13_2_N rfl rfl rfl (opv_neI rfl rfl rfl rfl rfl) ?_
  refine lj 14 R13_2_N rfl rfl rfl (opv_move rfl rfl rfl) ?_
  rcases Bool.eq_false_or_eq_true (!decide (r5.2 = 0)) with hb7 | hb7
  · replace H := cnd_t H hb7
    refine ls 15 R13_2_N rfl rfl ⟨_, rfl, .inl ⟨_, rfl, gq hb7 rfl⟩⟩ ?_
    refine ls 16 R13_2_N rfl rfl ⟨_, rfl, .inl ⟨_, rfl, gq hb7 rfl⟩⟩ ?_
    refine ls 17 R13_2_N rfl rfl ⟨_, rfl, .inl ⟨_, rfl, gq hb7 rfl⟩⟩ ?_
    refine ls 18 R13_2_N rfl rfl ⟨_, rfl, .inl ⟨_, rfl, gq hb7 rfl⟩⟩ ?_
    refine ls 19 R13_2_N rfl rfl ⟨_, rfl, .inl ⟨_, rfl, gq hb7 rfl⟩⟩ ?_
    refine ls 20 R13_2_N rfl rfl ⟨_, rfl, .inl ⟨_, rfl, gq hb7 rfl⟩⟩ ?_
    refine lj 21 R13_2_N rfl rfl rfl (ov_pickT rfl rfl rfl rfl rfl hb7 rfl) ?_
    refine aops_nil ?_
    refine ago_condE  (rfl : C13_7 = .cond (.tmp 21) C13_8 C13_11) rfl rfl (fun h => ?_) (fun h => tf h)
    refine ago_seqE (rfl : C13_8 = .seq C13_9 C13_10) ?_
    refine ago_cut (fun ρ => ρ 4 = p1 ∧ True) ⟨rfl, trivial⟩ (fun ρ ⟨h4, _⟩ => ?_)
    refine ago_regE (rfl : C13_9 = .region 3 R13_3 false) (l := [0, 1, 2]) rfl ?_
    refine lj 22 R13_3_N rfl rfl rfl (ov_bld (r := [.int .i64 3, .int .u64 0, .string (⟨#[]⟩ : ByteArray), .string (⟨#[]⟩ : ByteArray), (.slice none 0 0), .int .i64 0]) rfl rfl bo29 (mp_cons rfl rfl) (fillP rfl rfl rfl rfl (fillN rfl))) ?_
    obtain ⟨b10, i11, aw9, hp12, hw13, ho14, ha15, H⟩ := H
    refine lk (dt := none) R13_3_N rfl rfl rfl (ov_st rfl rfl rfl h4 rfl rfl sz29 hp12 hw13 ho14 ha15) ?_
    refine lj 5 R13_3_N rfl rfl rfl (opv_assign rfl rfl rfl) ?_
    refine aops_nil ?_
    obtain ⟨b16, i17, hp18, c19, hg25, c20, hg26, c21, hg27, c22, hg28, c23, hg29, c24, hg30, H⟩ := H
    exact ago_retE (rfl : C13_10 = .ret) (r := (c19, c20, c21, c22, c23, c24, (.pointer none))) (ares_2 rfl (oneN h4 hp18 underlying29 rfl sz29 (getN_cons hg25 (getN_cons hg26 (getN_cons hg27 (getN_cons hg28 (getN_cons hg29 (getN_cons hg30 getN_nil))))))) (oneT rfl)) rfl H
  · replace H := cnd_f H hb7
    refine lj 15 R13_2_N rfl rfl ⟨_, rfl, .inl ⟨_, rfl, gq hb7 rfl⟩⟩ (opv_move rfl rfl rfl) ?_
    refine lj 16 R13_2_N rfl rfl ⟨_, rfl, .inl ⟨_, rfl, gq hb7 rfl⟩⟩ (opv_move rfl rfl h0) ?_
    obtain ⟨h131, H⟩ := H
    refine lj 17 R13_2_N rfl rfl ⟨_, rfl, .inl ⟨_, rfl, gq hb7 rfl⟩⟩ (ov_bld (r := [.int .i64 0, l_0]) rfl rfl bo43 (mp_cons rfl rfl) (fillP (cells_one h131) rfl rfl rfl (fillN rfl))) ?_
    obtain ⟨p32, aw33, hp34, ha35, H⟩ := H
    refine lj 18 R13_2_N rfl rfl ⟨_, rfl, .inl ⟨_, rfl, gq hb7 rfl⟩⟩ (ov_bsA (r := [.int .i64 0, l_0]) (vs := [.agg #[.int .i64 0, l_0]]) rfl rfl underlying44 sz43 z43 rfl rfl rfl rfl rfl (mp_cons rfl rfl) (.cons (v := .agg #[.int .i64 0, l_0]) (xs := [.int .i64 0, l_0]) (r := []) rfl rfl .nil) hp34 ha35) ?_
    refine lc 19 R13_2_N rfl rfl ⟨_, rfl, .inl ⟨_, rfl, gq hb7 rfl⟩⟩ (opc_of rfl rfl is16 (ma_cons rfl (ma_cons rfl rfl))) H (fun _ _ h => ⟨rfl, h⟩) fun r36 aw37 H => ?_
    refine lj 20 R13_2_N rfl rfl ⟨_, rfl, .inl ⟨_, rfl, gq hb7 rfl⟩⟩ (opv_neI rfl rfl rfl rfl rfl) ?_
    refine lj 21 R13_2_N rfl rfl rfl (ov_pickF rfl rfl rfl rfl rfl hb7 rfl) ?_
    refine aops_nil ?_
    refine ago_condE  (rfl : C13_7 = .cond (.tmp 21) C13_8 C13_11) rfl rfl (fun hb38 => ?_) (fun hb38 => ?_)
    · exact (cnd_t H hb38).elim
    replace H := cnd_f H hb38
    refine ago_skipE (rfl : C13_11 = .skip) ?_
    refine ago_seqE (rfl : C13_12 = .seq C13_13 C13_14) ?_
    refine ago_cut (fun ρ => ρ 1 = .int .i64 fuel_1 ∧ ρ 4 = p1 ∧ ρ 6 = r5.1 ∧ True) ⟨h1, rfl, rfl, trivial⟩ (fun ρ ⟨h1, h4, h6, _⟩ => ?_)
    refine ago_regE (rfl : C13_13 = .region 4 R13_4 false) (l := [0, 1, 2, 3, 4, 5]) rfl ?_
    refine lj 23 R13_4_N rfl rfl rfl (opv_move rfl rfl h6) ?_
    refine lj 24 R13_4_N rfl rfl rfl (opv_move rfl rfl h1) ?_
    refine lc 25 R13_4_N rfl rfl rfl (opc_of rfl rfl is17 (ma_cons rfl (ma_cons rfl (ma_cons rfl (ma_cons rfl (ma_cons rfl rfl)))))) H (fun _ _ h => ⟨rfl, h⟩) fun r39 aw40 H => ?_
    refine lj 26 R13_4_N rfl rfl rfl (opv_move rfl rfl h6) ?_
    obtain ⟨b42, i43, aw41, hp44, hw45, ho46, ha47, H⟩ := H
    refine lk (dt := none) R13_4_N rfl rfl rfl (ov_st rfl rfl rfl h4 rfl rfl sz29 hp44 hw45 ho46 ha47) ?_
    refine lj 5 R13_4_N rfl rfl rfl (opv_assign rfl rfl rfl) ?_
    refine aops_nil ?_
    obtain ⟨b48, i49, hp50, c51, hg57, c52, hg58, c53, hg59, c54, hg60, c55, hg61, c56, hg62, H⟩ := H
    exact ago_retE (rfl : C13_14 = .ret) (r := (c51, c52, c53, c54, c55, c56, r5.1)) (ares_2 rfl (oneN h4 hp50 underlying29 rfl sz29 (getN_cons hg57 (getN_cons hg58 (getN_cons hg59 (getN_cons hg60 (getN_cons hg61 (getN_cons hg62 getN_nil))))))) (oneT rfl)) rfl H
theorem F13_ok {Q : (Int × Int × ByteArray × ByteArray × Value × Int × Value) → AW → Prop} {E : List PanicEntry → AW → Prop} (l_0 : Value) (fuel_1 : Int) (aw : AW) (H : S13_0 Q E l_0 fuel_1 aw) : CallP prog 13 [l_0, .int .i64 fuel_1] aw sh13 Q E :=
  callP_of func13 C13_is rfl (Nat.le_of_ble_eq_true rfl) (S13_0_ok Q E _ l_0 fuel_1 aw rfl rfl H)
end
end Go.Proofs.Tryd
