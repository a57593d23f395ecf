/- Printed by a program of the prover: what the Go functions of this seat do, in steps. -/
import Derived.Test.YtfoceofohlpafaaDoorMaF
set_option linter.unusedSectionVars false
set_option linter.unusedSimpArgs false
set_option linter.unusedVariables false
namespace Go.Proofs.Tryd
open Go Go.Am Go.RowKit
set_option maxHeartbeats 4000000
set_option maxRecDepth 100000
noncomputable section
variable [SymE]
def C6_0 := bodyOf f6
theorem C6_is : f6.body = some C6_0 := by kernel_rfl
def C6_1 := cl C6_0
def R6_0 := regOps C6_1
def C6_2 := cr C6_0
def C6_3 := cl C6_2
def C6_4 := cl C6_3
def R6_1 := regOps C6_4
def C6_5 := cr C6_3
def C6_6 := cl C6_5
def C6_7 := cl C6_6
def R6_2 := regOps C6_7
def C6_8 := cr C6_6
def C6_9 := cr C6_5
def C6_10 := cr C6_2
def C6_11 := cl C6_10
def R6_3 := regOps C6_11
def C6_12 := cr C6_10
def C6_13 := cl C6_12
def C6_14 := cl C6_13
def R6_4 := regOps C6_14
def C6_15 := cr C6_13
def C6_16 := cl C6_15
def C6_17 := cl C6_16
def R6_5 := regOps C6_17
def C6_18 := cr C6_16
def C6_19 := cr C6_15
def C6_20 := cr C6_12
def C6_21 := cl C6_20
def C6_22 := cl C6_21
def R6_6 := regOps C6_22
def C6_23 := cr C6_21
def C6_24 := cl C6_23
def C6_25 := cl C6_24
def R6_7 := regOps C6_25
def C6_26 := cr C6_24
def C6_27 := cl C6_26
def C6_28 := cl C6_27
def R6_8 := regOps C6_28
def C6_29 := cr C6_27
def C6_30 := cr C6_26
def C6_31 := cr C6_23
def C6_32 := cl C6_31
def R6_9 := regOps C6_32
def C6_33 := cr C6_31
def C6_34 := cl C6_33
def C6_35 := cl C6_34
def R6_10 := regOps C6_35
def C6_36 := cr C6_34
def C6_37 := cr C6_33
def C6_38 := cr C6_20
def C6_39 := cl C6_38
def R6_11 := regOps C6_39
def C6_40 := cr C6_38
def C6_41 := cl C6_40
def R6_12 := regOps C6_41
def C6_42 := cr C6_40
def C6_43 := cl C6_42
def R6_13 := regOps C6_43
def C6_44 := cr C6_42
def C6_45 := cl C6_44
def R6_14 := regOps C6_45
def C6_46 := cr C6_44
def C6_47 := cl C6_46
def C6_48 := cl C6_47
def R6_15 := regOps C6_48
def C6_49 := cr C6_47
def C6_50 := cl C6_49
def R6_16 := regOps C6_50
def C6_51 := cr C6_49
def C6_52 := cr C6_46
def C6_53 := cl C6_52
def R6_17 := regOps C6_53
def C6_54 := cr C6_52
theorem R6_0_N : dstsOk 137 R6_0 = true := by decide +kernel
theorem R6_1_N : dstsOk 137 R6_1 = true := by decide +kernel
theorem R6_2_N : dstsOk 137 R6_2 = true := by decide +kernel
theorem R6_3_N : dstsOk 137 R6_3 = true := by decide +kernel
theorem R6_4_N : dstsOk 137 R6_4 = true := by decide +kernel
theorem R6_5_N : dstsOk 137 R6_5 = true := by decide +kernel
theorem R6_6_N : dstsOk 137 R6_6 = true := by decide +kernel
theorem R6_7_N : dstsOk 137 R6_7 = true := by decide +kernel
theorem R6_8_N : dstsOk 137 R6_8 = true := by decide +kernel
theorem R6_9_N : dstsOk 137 R6_9 = true := by decide +kernel
theorem R6_9_O : linOk R6_9 [0, 1, 2, 3, 4, 6, 7, 9, 10, 11] [(5, [6, 7, 9, 10, 11], []), (8, [9, 10, 11], [12, 13])] = true := by decide +kernel
theorem R6_10_N : dstsOk 137 R6_10 = true := by decide +kernel
theorem R6_11_N : dstsOk 137 R6_11 = true := by decide +kernel
theorem R6_12_N : dstsOk 137 R6_12 = true := by decide +kernel
theorem R6_13_N : dstsOk 137 R6_13 = true := by decide +kernel
theorem R6_14_N : dstsOk 137 R6_14 = true := by decide +kernel
theorem R6_15_N : dstsOk 137 R6_15 = true := by decide +kernel
theorem R6_16_N : dstsOk 137 R6_16 = true := by decide +kernel
theorem R6_17_N : dstsOk 137 R6_17 = true := by decide +kernel
theorem R6_17_O : linOk R6_17 [0, 1, 2, 3, 4, 5, 6, 7, 8, 9, 10, 11, 12, 13, 14, 15, 16, 17, 18, 19, 20, 21, 22, 23, 24] [(25, [21, 22], [26, 27, 28, 29, 30, 31, 32, 33])] = true := by decide +kernel
def S6_3 (Q : Bool → AW → Prop) (E : List PanicEntry → AW → Prop)  (a_0 : ByteArray) (e_7 : Value) (t_9 : Value) (n_11 : Value) (same_13 : Int) (aw : AW) : Prop :=
  fldA e_7 1 fun p1 =>
  ldI .u64 aw p1 fun x9 =>
  cnd (decide (x9 = same_13)) (fldA e_7 5 fun p12 =>
  ldI .i64 aw p12 fun x20 =>
  cnd (decide (x20 = 4)) (fldA t_9 1 fun p23 =>
  ldI .u64 aw p23 fun x31 =>
  cnd (decide (x31 = same_13)) (fldA t_9 5 fun p34 =>
  ldI .i64 aw p34 fun x42 =>
  cnd (decide (x42 = 5)) (fldA n_11 1 fun p45 =>
  ldI .u64 aw p45 fun x53 =>
  CallP prog 14 [.int .i64 (a_0.size : Int)] aw sh14 (fun r55 aw56 =>
  again1 aw56 p45 (.int .u64 x53) ∧ cnd (decide (x53 = r55)) (fldA n_11 5 fun p58 =>
  ldI .i64 aw56 p58 fun x66 =>
  Q (decide (x66 = 4)) aw56) (Q false aw56)) E) (Q false aw)) (Q false aw)) (Q false aw)) (Q false aw)
def S6_2 (Q : Bool → AW → Prop) (E : List PanicEntry → AW → Prop)  (a_0 : ByteArray) (b_1 : ByteArray) (aw : AW) : Prop :=
  alcS aw [.int .u8 1, .int .i64 0, .int .i64 0, .string a_0, .int .u8 1, .int .i64 0, .int .i64 0, .string b_1, .int .u8 20, .int .i64 5, .int .i64 0, .string (⟨#[]⟩ : ByteArray), .int .u8 8, .int .i64 0, .int .i64 0, .string (⟨#[]⟩ : ByteArray)] 34 4 4 fun p68 aw69 =>
  CallP prog 13 [p68, .int .i64 5] aw69 sh13 (fun r72 aw73 =>
  alc aw73 [.int .i64 0, .int .u64 0, .string (⟨#[]⟩ : ByteArray), .string (⟨#[]⟩ : ByteArray), (.slice none 0 0), .int .i64 0] 29 0 fun p74 aw75 =>
  st aw75 p74 [.int .i64 r72.1, .int .u64 r72.2.1, .string r72.2.2.1, .string r72.2.2.2.1, r72.2.2.2.2.1, .int .i64 r72.2.2.2.2.2.1] fun aw78 =>
  alcS aw78 [.int .u8 1, .int .i64 0, .int .i64 0, .string a_0, .int .u8 15, .int .i64 0, .int .i64 0, .string b_1, .int .u8 8, .int .i64 0, .int .i64 0, .string (⟨#[]⟩ : ByteArray)] 34 4 3 fun p85 aw86 =>
  CallP prog 13 [p85, .int .i64 5] aw86 sh13 (fun r89 aw90 =>
  alc aw90 [.int .i64 0, .int .u64 0, .string (⟨#[]⟩ : ByteArray), .string (⟨#[]⟩ : ByteArray), (.slice none 0 0), .int .i64 0] 29 0 fun p91 aw92 =>
  st aw92 p91 [.int .i64 r89.1, .int .u64 r89.2.1, .string r89.2.2.1, .string r89.2.2.2.1, r89.2.2.2.2.1, .int .i64 r89.2.2.2.2.2.1] fun aw95 =>
  alcS aw95 [.int .u8 5, .int .i64 6, .int .i64 0, .string (⟨#[]⟩ : ByteArray), .int .u8 1, .int .i64 0, .int .i64 0, .string a_0, .int .u8 7, .int .i64 0, .int .i64 0, .string (⟨#[]⟩ : ByteArray), .int .u8 8, .int .i64 0, .int .i64 0, .string (⟨#[]⟩ : ByteArray)] 34 4 4 fun p102 aw103 =>
  CallP prog 13 [p102, .int .i64 5] aw103 sh13 (fun r106 aw107 =>
  alc aw107 [.int .i64 0, .int .u64 0, .string (⟨#[]⟩ : ByteArray), .string (⟨#[]⟩ : ByteArray), (.slice none 0 0), .int .i64 0] 29 0 fun p108 aw109 =>
  st aw109 p108 [.int .i64 r106.1, .int .u64 r106.2.1, .string r106.2.2.1, .string r106.2.2.2.1, r106.2.2.2.2.1, .int .i64 r106.2.2.2.2.2.1] fun aw112 =>
  CallP prog 14 [.int .i64 0] aw112 sh14 (fun r119 aw120 =>
  cnd (decide (a_0 = b_1)) (CallP prog 14 [.int .i64 1] aw120 sh14 (fun r122 aw123 =>
  S6_3 Q E  a_0 p74 p91 p108 r122 aw123) E) (S6_3 Q E  a_0 p74 p91 p108 r119 aw120)) E) E) E) E
def S6_1 (Q : Bool → AW → Prop) (E : List PanicEntry → AW → Prop)  (a_0 : ByteArray) (b_1 : ByteArray) (t_25 : Bool) (aw : AW) : Prop :=
  cnd t_25 (CallP prog 11 [] aw sh11 (fun r125 aw126 =>
  Q r125 aw126) E) (alcS aw [.int .u8 1, .int .i64 0, .int .i64 0, .string a_0, .int .u8 1, .int .i64 0, .int .i64 0, .string b_1, .int .u8 20, .int .i64 9, .int .i64 0, .string (⟨#[]⟩ : ByteArray), .int .u8 8, .int .i64 0, .int .i64 0, .string (⟨#[]⟩ : ByteArray)] 34 4 4 fun p127 aw128 =>
  CallP prog 13 [p127, .int .i64 5] aw128 sh13 (fun r131 aw132 =>
  alc aw132 [.int .i64 0, .int .u64 0, .string (⟨#[]⟩ : ByteArray), .string (⟨#[]⟩ : ByteArray), (.slice none 0 0), .int .i64 0] 29 0 fun p133 aw134 =>
  st aw134 p133 [.int .i64 r131.1, .int .u64 r131.2.1, .string r131.2.2.1, .string r131.2.2.2.1, r131.2.2.2.2.1, .int .i64 r131.2.2.2.2.2.1] fun aw137 =>
  nilB (.pointer 77) r131.2.2.2.2.2.2 (.pointer none) fun q144 =>
  cnd q144 (Q false aw137) (cnd (decide (4096 < (IntKind.i64.wrap ((a_0.size : Int) + (b_1.size : Int))))) (fldA p133 0 fun p149 =>
  ldI .i64 aw137 p149 fun x157 =>
  cnd (!decide (x157 = 9)) (Q false aw137) (fldA p133 2 fun p161 =>
  ldS aw137 p161 fun x169 =>
  cnd (!decide (x169 = (⟨#[108, 111, 110, 103]⟩ : ByteArray))) (Q false aw137) (S6_2 Q E  a_0 b_1 aw137))) (fldA p133 0 fun p172 =>
  ldI .i64 aw137 p172 fun x180 =>
  cnd (!decide (x180 = 0)) (Q false aw137) (fldA p133 1 fun p184 =>
  ldI .u64 aw137 p184 fun x192 =>
  a_0.size + b_1.size ≤ 2 ^ 62 ∧ CallP prog 18 [r131.2.2.2.2.2.2] aw137 sh18 (fun r195 aw196 =>
  again1 aw196 p184 (.int .u64 x192) ∧ CallP prog 19 [r195, .int .u64 x192] aw196 sh19 (fun r197 aw198 =>
  cnd (!decide (r197 = (a_0 ++ b_1))) (Q false aw198) (S6_2 Q E  a_0 b_1 aw198)) E) E)))) E)
def S6_0 (Q : Bool → AW → Prop) (E : List PanicEntry → AW → Prop)  (a_0 : ByteArray) (b_1 : ByteArray) (aw : AW) : Prop :=
  CallP prog 11 [] aw sh11 (fun r200 aw201 =>
  cnd (!r200) (S6_1 Q E  a_0 b_1 true aw201) (cnd (decide (2500 < (a_0.size : Int))) (S6_1 Q E  a_0 b_1 true aw201) (S6_1 Q E  a_0 b_1 (decide (2500 < (b_1.size : Int))) aw201))) E
theorem S6_3_ok (Q : Bool → AW → Prop) (E : List PanicEntry → AW → Prop)  (ρ : Env) (a_0 : ByteArray) (e_7 : Value) (t_9 : Value) (n_11 : Value) (same_13 : Int) (aw : AW) (h0 : ρ 0 = .string a_0) (h7 : ρ 7 = e_7) (h9 : ρ 9 = t_9) (h11 : ρ 11 = n_11) (h13 : ρ 13 = .int .u64 same_13) (H : S6_3 Q E  a_0 e_7 t_9 n_11 same_13 aw) :
    AGo prog 137 [.code C6_52] ρ [] aw (RR prog f6 137 sh6 Q E) := by
  unfold S6_3 at H
  refine ago_seqE (rfl : C6_52 = .seq C6_53 C6_54) ?_
  obtain ⟨b2, i3, p1, hp4, hv5, H⟩ := H
  obtain ⟨b6, i7, x9, hp8, hg10, H⟩ := H
  rcases Bool.eq_false_or_eq_true (decide (x9 = same_13)) with hb11 | hb11
  · replace H := cnd_t H hb11
    obtain ⟨b13, i14, p12, hp15, hv16, H⟩ := H
    obtain ⟨b17, i18, x20, hp19, hg21, H⟩ := H
    rcases Bool.eq_false_or_eq_true (decide (x20 = 4)) with hb22 | hb22
    · replace H := cnd_t H hb22
      obtain ⟨b24, i25, p23, hp26, hv27, H⟩ := H
      obtain ⟨b28, i29, x31, hp30, hg32, H⟩ := H
      rcases Bool.eq_false_or_eq_true (decide (x31 = same_13)) with hb33 | hb33
      · replace H := cnd_t H hb33
        obtain ⟨b35, i36, p34, hp37, hv38, H⟩ := H
        obtain ⟨b39, i40, x42, hp41, hg43, H⟩ := H
        rcases Bool.eq_false_or_eq_true (decide (x42 = 5)) with hb44 | hb44
        · replace H := cnd_t H hb44
          obtain ⟨b46, i47, p45, hp48, hv49, H⟩ := H
          obtain ⟨b50, i51, x53, hp52, hg54, H⟩ := H
          refine ago_drawH (p := [0, 1, 2, 3, 4, 5, 6, 7, 8, 9, 10, 11, 12, 13, 14, 15, 16, 17, 18, 19, 20, 21, 22, 23, 24]) (tl := [(25, [21, 22], [26, 27, 28, 29, 30, 31, 32, 33])]) (hv := [(0, p1), (1, Value.int .u64 x9), (2, Value.int .u64 same_13), (3, Value.bool (decide (x9 = same_13))), (4, Value.bool (decide (x9 = same_13))), (5, p12), (6, Value.int .i64 x20), (7, Value.bool (decide (x20 = 4))), (8, Value.bool (decide (x20 = 4))), (9, Value.bool (decide (x20 = 4))), (10, p23), (11, Value.int .u64 x31), (12, Value.int .u64 same_13), (13, Value.bool (decide (x31 = same_13))), (14, Value.bool (decide (x31 = same_13))), (15, Value.bool (decide (x31 = same_13))), (16, p34), (17, Value.int .i64 x42), (18, Value.bool (decide (x42 = 5))), (19, Value.bool (decide (x42 = 5))), (20, Value.bool (decide (x42 = 5))), (21, p45), (22, Value.int .u64 x53), (23, Value.string a_0), (24, Value.int .i64 (a_0.size : Int))]) (rfl : C6_53 = .region 17 R6_17 true) mixed R6_17_N R6_17_O rfl (pv_cons rfl (pv_cons rfl (pv_cons rfl (pv_cons rfl (pv_cons rfl (pv_cons rfl (pv_cons rfl (pv_cons rfl (pv_cons rfl (pv_cons rfl (pv_cons rfl (pv_cons rfl (pv_cons rfl (pv_cons rfl (pv_cons rfl (pv_cons rfl (pv_cons rfl (pv_cons rfl (pv_cons rfl (pv_cons rfl (pv_cons rfl (pv_cons rfl (pv_cons rfl (pv_cons rfl (pv_cons rfl (pv_nil _))))))))))))))))))))))))))
            (fc 104 p1 (hd_v rfl fun ρ hρ => ⟨rfl, ov_fldA rfl rfl underlying29 rfl sz26 (by decide) ((hρ 7 (lmem rfl)).trans h7) hp4 rfl hv5⟩) rfl rfl
            (fc 105 (.int .u64 x9) (hd_v rfl fun ρ hρ => ⟨rfl, ov_ldI rfl underlying26 rfl ((hρ 104 (lmem rfl)).trans rfl) hp8 hg10⟩) rfl rfl
            (fc 106 (.int .u64 same_13) (hd_v rfl fun ρ hρ => ⟨rfl, opv_move rfl rfl ((hρ 13 (lmem rfl)).trans h13)⟩) rfl rfl
            (fc 107 (.bool (decide (x9 = same_13))) (hd_v rfl fun ρ hρ => ⟨rfl, opv_eqI rfl rfl rfl ((hρ 105 (lmem rfl)).trans rfl) ((hρ 106 (lmem rfl)).trans rfl)⟩) rfl rfl
            (fc 108 (.bool (decide (x9 = same_13))) (hd_v rfl fun ρ hρ => ⟨rfl, opv_move rfl rfl ((hρ 107 (lmem rfl)).trans rfl)⟩) rfl rfl
            (fc 109 p12 (hd_v rfl fun ρ hρ => ⟨⟨_, rfl, .inl ⟨_, ((hρ 108 (lmem rfl)).trans rfl), gq hb11 rfl⟩⟩, ov_fldA rfl rfl underlying29 rfl sz3 (by decide) ((hρ 7 (lmem rfl)).trans h7) hp15 rfl hv16⟩) rfl rfl
            (fc 110 (.int .i64 x20) (hd_v rfl fun ρ hρ => ⟨⟨_, rfl, .inl ⟨_, ((hρ 108 (lmem rfl)).trans rfl), gq hb11 rfl⟩⟩, ov_ldI rfl underlying3 rfl ((hρ 109 (lmem rfl)).trans rfl) hp19 hg21⟩) rfl rfl
            (fc 111 (.bool (decide (x20 = 4))) (hd_v rfl fun ρ hρ => ⟨⟨_, rfl, .inl ⟨_, ((hρ 108 (lmem rfl)).trans rfl), gq hb11 rfl⟩⟩, opv_eqI rfl rfl rfl ((hρ 110 (lmem rfl)).trans rfl) rfl⟩) rfl rfl
            (fc 112 (.bool (decide (x20 = 4))) (hd_v rfl fun ρ hρ => ⟨rfl, ov_pickT rfl rfl rfl rfl ((hρ 108 (lmem rfl)).trans rfl) hb11 ((hρ 111 (lmem rfl)).trans rfl)⟩) rfl rfl
            (fc 113 (.bool (decide (x20 = 4))) (hd_v rfl fun ρ hρ => ⟨rfl, opv_move rfl rfl ((hρ 112 (lmem rfl)).trans rfl)⟩) rfl rfl
            (fc 114 p23 (hd_v rfl fun ρ hρ => ⟨⟨_, rfl, .inl ⟨_, ((hρ 113 (lmem rfl)).trans rfl), gq hb22 rfl⟩⟩, ov_fldA rfl rfl underlying29 rfl sz26 (by decide) ((hρ 9 (lmem rfl)).trans h9) hp26 rfl hv27⟩) rfl rfl
            (fc 115 (.int .u64 x31) (hd_v rfl fun ρ hρ => ⟨⟨_, rfl, .inl ⟨_, ((hρ 113 (lmem rfl)).trans rfl), gq hb22 rfl⟩⟩, ov_ldI rfl underlying26 rfl ((hρ 114 (lmem rfl)).trans rfl) hp30 hg32⟩) rfl rfl
            (fc 116 (.int .u64 same_13) (hd_v rfl fun ρ hρ => ⟨⟨_, rfl, .inl ⟨_, ((hρ 113 (lmem rfl)).trans rfl), gq hb22 rfl⟩⟩, opv_move rfl rfl ((hρ 13 (lmem rfl)).trans h13)⟩) rfl rfl
            (fc 117 (.bool (decide (x31 = same_13))) (hd_v rfl fun ρ hρ => ⟨⟨_, rfl, .inl ⟨_, ((hρ 113 (lmem rfl)).trans rfl), gq hb22 rfl⟩⟩, opv_eqI rfl rfl rfl ((hρ 115 (lmem rfl)).trans rfl) ((hρ 116 (lmem rfl)).trans rfl)⟩) rfl rfl
            (fc 118 (.bool (decide (x31 = same_13))) (hd_v rfl fun ρ hρ => ⟨rfl, ov_pickT rfl rfl rfl rfl ((hρ 113 (lmem rfl)).trans rfl) hb22 ((hρ 117 (lmem rfl)).trans rfl)⟩) rfl rfl
            (fc 119 (.bool (decide (x31 = same_13))) (hd_v rfl fun ρ hρ => ⟨rfl, opv_move rfl rfl ((hρ 118 (lmem rfl)).trans rfl)⟩) rfl rfl
            (fc 120 p34 (hd_v rfl fun ρ hρ => ⟨⟨_, rfl, .inl ⟨_, ((hρ 119 (lmem rfl)).trans rfl), gq hb33 rfl⟩⟩, ov_fldA rfl rfl underlying29 rfl sz3 (by decide) ((hρ 9 (lmem rfl)).trans h9) hp37 rfl hv38⟩) rfl rfl
            (fc 121 (.int .i64 x42) (hd_v rfl fun ρ hρ => ⟨⟨_, rfl, .inl ⟨_, ((hρ 119 (lmem rfl)).trans rfl), gq hb33 rfl⟩⟩, ov_ldI rfl underlying3 rfl ((hρ 120 (lmem rfl)).trans rfl) hp41 hg43⟩) rfl rfl
            (fc 122 (.bool (decide (x42 = 5))) (hd_v rfl fun ρ hρ => ⟨⟨_, rfl, .inl ⟨_, ((hρ 119 (lmem rfl)).trans rfl), gq hb33 rfl⟩⟩, opv_eqI rfl rfl rfl ((hρ 121 (lmem rfl)).trans rfl) rfl⟩) rfl rfl
            (fc 123 (.bool (decide (x42 = 5))) (hd_v rfl fun ρ hρ => ⟨rfl, ov_pickT rfl rfl rfl rfl ((hρ 119 (lmem rfl)).trans rfl) hb33 ((hρ 122 (lmem rfl)).trans rfl)⟩) rfl rfl
            (fc 124 (.bool (decide (x42 = 5))) (hd_v rfl fun ρ hρ => ⟨rfl, opv_move rfl rfl ((hρ 123 (lmem rfl)).trans rfl)⟩) rfl rfl
            (fc 125 p45 (hd_v rfl fun ρ hρ => ⟨⟨_, rfl, .inl ⟨_, ((hρ 124 (lmem rfl)).trans rfl), gq hb44 rfl⟩⟩, ov_fldA rfl rfl underlying29 rfl sz26 (by decide) ((hρ 11 (lmem rfl)).trans h11) hp48 rfl hv49⟩) rfl rfl
            (fc 126 (.int .u64 x53) (hd_v rfl fun ρ hρ => ⟨⟨_, rfl, .inl ⟨_, ((hρ 124 (lmem rfl)).trans rfl), gq hb44 rfl⟩⟩, ov_ldI rfl underlying26 rfl ((hρ 125 (lmem rfl)).trans rfl) hp52 hg54⟩) rfl rfl
            (fc 127 (.string a_0) (hd_v rfl fun ρ hρ => ⟨⟨_, rfl, .inl ⟨_, ((hρ 124 (lmem rfl)).trans rfl), gq hb44 rfl⟩⟩, opv_move rfl rfl ((hρ 0 (lmem rfl)).trans h0)⟩) rfl rfl
            (fc 128 (.int .i64 (a_0.size : Int)) (hd_v rfl fun ρ hρ => ⟨⟨_, rfl, .inl ⟨_, ((hρ 124 (lmem rfl)).trans rfl), gq hb44 rfl⟩⟩, opv_lenS rfl rfl rfl underlying9 ((hρ 127 (lmem rfl)).trans rfl)⟩) rfl rfl
            ffn))))))))))))))))))))))))) ?_
          refine lt_call (dt := some 129) rfl rfl (fun ρ hρ => ⟨⟨_, rfl, .inl ⟨_, ((hρ 124 (lmem rfl)).trans rfl), gq hb44 rfl⟩⟩, opc_of rfl rfl is14 (ma_cons ((hρ 128 (lmem rfl)).trans rfl) rfl)⟩) H (fun _ _ h _ => ⟨rfl, h⟩) fun r55 aw56 H => ?_
          obtain ⟨hg54, H⟩ := H
          replace hg54 := hg54 _ _ hp52
          rcases Bool.eq_false_or_eq_true (decide (x53 = r55)) with hb57 | hb57
          · replace H := cnd_t H hb57
            obtain ⟨b59, i60, p58, hp61, hv62, H⟩ := H
            obtain ⟨b63, i64, x66, hp65, hg67, H⟩ := H
            refine lt_next (l := [21, 22, 26, 27, 28, 29, 30, 31, 32, 33]) (hv := [(26, Value.bool (decide (x53 = r55))), (27, Value.bool (decide (x53 = r55))), (28, Value.bool (decide (x53 = r55))), (29, p58), (30, Value.int .i64 x66), (31, Value.bool (decide (x66 = 4))), (32, Value.bool (decide (x66 = 4))), (33, Value.bool (decide (x66 = 4)))]) rfl rfl (pv_cons rfl (pv_cons rfl (pv_cons rfl (pv_cons rfl (pv_cons rfl (pv_cons rfl (pv_cons rfl (pv_cons rfl (pv_nil _)))))))))
              (fc 125 p45 (hd_v rfl fun ρ hρ => ⟨⟨_, rfl, .inl ⟨_, ((hρ 124 (lmem rfl)).trans rfl), gq hb44 rfl⟩⟩, ov_fldA rfl rfl underlying29 rfl sz26 (by decide) ((hρ 11 (lmem rfl)).trans h11) hp48 rfl hv49⟩) rfl rfl
              (fc 126 (.int .u64 x53) (hd_v rfl fun ρ hρ => ⟨⟨_, rfl, .inl ⟨_, ((hρ 124 (lmem rfl)).trans rfl), gq hb44 rfl⟩⟩, ov_ldI rfl underlying26 rfl ((hρ 125 (lmem rfl)).trans rfl) hp52 hg54⟩) rfl rfl
              (fc 130 (.bool (decide (x53 = r55))) (hd_v rfl fun ρ hρ => ⟨⟨_, rfl, .inl ⟨_, ((hρ 124 (lmem rfl)).trans rfl), gq hb44 rfl⟩⟩, opv_eqI rfl rfl rfl ((hρ 126 (lmem rfl)).trans rfl) ((hρ 129 (lmem rfl)).trans rfl)⟩) rfl rfl
              (fc 131 (.bool (decide (x53 = r55))) (hd_v rfl fun ρ hρ => ⟨rfl, ov_pickT rfl rfl rfl rfl ((hρ 124 (lmem rfl)).trans rfl) hb44 ((hρ 130 (lmem rfl)).trans rfl)⟩) rfl rfl
              (fc 132 (.bool (decide (x53 = r55))) (hd_v rfl fun ρ hρ => ⟨rfl, opv_move rfl rfl ((hρ 131 (lmem rfl)).trans rfl)⟩) rfl rfl
              (fc 133 p58 (hd_v rfl fun ρ hρ => ⟨⟨_, rfl, .inl ⟨_, ((hρ 132 (lmem rfl)).trans rfl), gq hb57 rfl⟩⟩, ov_fldA rfl rfl underlying29 rfl sz3 (by decide) ((hρ 11 (lmem rfl)).trans h11) hp61 rfl hv62⟩) rfl rfl
              (fc 134 (.int .i64 x66) (hd_v rfl fun ρ hρ => ⟨⟨_, rfl, .inl ⟨_, ((hρ 132 (lmem rfl)).trans rfl), gq hb57 rfl⟩⟩, ov_ldI rfl underlying3 rfl ((hρ 133 (lmem rfl)).trans rfl) hp65 hg67⟩) rfl rfl
              (fc 135 (.bool (decide (x66 = 4))) (hd_v rfl fun ρ hρ => ⟨⟨_, rfl, .inl ⟨_, ((hρ 132 (lmem rfl)).trans rfl), gq hb57 rfl⟩⟩, opv_eqI rfl rfl rfl ((hρ 134 (lmem rfl)).trans rfl) rfl⟩) rfl rfl
              (fc 136 (.bool (decide (x66 = 4))) (hd_v rfl fun ρ hρ => ⟨rfl, ov_pickT rfl rfl rfl rfl ((hρ 132 (lmem rfl)).trans rfl) hb57 ((hρ 135 (lmem rfl)).trans rfl)⟩) rfl rfl
              (fc 4 (.bool (decide (x66 = 4))) (hd_v rfl fun ρ hρ => ⟨rfl, opv_assign rfl rfl ((hρ 136 (lmem rfl)).trans rfl)⟩) rfl rfl
              ffn)))))))))) ?_
            refine lt_end ?_
            exact ago_retE (rfl : C6_54 = .ret) (r := (decide (x66 = 4))) (ares_1 rfl (oneT rfl)) rfl H
          · replace H := cnd_f H hb57
            refine lt_next (l := [21, 22, 26, 27, 28, 29, 30, 31, 32, 33]) (hv := [(26, Value.bool (decide (x53 = r55))), (27, Value.bool (decide (x53 = r55))), (28, Value.bool (decide (x53 = r55))), (29, undef), (30, undef), (31, undef), (32, Value.bool false), (33, Value.bool false)]) rfl rfl (pv_cons rfl (pv_cons rfl (pv_cons rfl (pv_cons rfl (pv_cons rfl (pv_cons rfl (pv_cons rfl (pv_cons rfl (pv_nil _)))))))))
              (fc 125 p45 (hd_v rfl fun ρ hρ => ⟨⟨_, rfl, .inl ⟨_, ((hρ 124 (lmem rfl)).trans rfl), gq hb44 rfl⟩⟩, ov_fldA rfl rfl underlying29 rfl sz26 (by decide) ((hρ 11 (lmem rfl)).trans h11) hp48 rfl hv49⟩) rfl rfl
              (fc 126 (.int .u64 x53) (hd_v rfl fun ρ hρ => ⟨⟨_, rfl, .inl ⟨_, ((hρ 124 (lmem rfl)).trans rfl), gq hb44 rfl⟩⟩, ov_ldI rfl underlying26 rfl ((hρ 125 (lmem rfl)).trans rfl) hp52 hg54⟩) rfl rfl
              (fc 130 (.bool (decide (x53 = r55))) (hd_v rfl fun ρ hρ => ⟨⟨_, rfl, .inl ⟨_, ((hρ 124 (lmem rfl)).trans rfl), gq hb44 rfl⟩⟩, opv_eqI rfl rfl rfl ((hρ 126 (lmem rfl)).trans rfl) ((hρ 129 (lmem rfl)).trans rfl)⟩) rfl rfl
              (fc 131 (.bool (decide (x53 = r55))) (hd_v rfl fun ρ hρ => ⟨rfl, ov_pickT rfl rfl rfl rfl ((hρ 124 (lmem rfl)).trans rfl) hb44 ((hρ 130 (lmem rfl)).trans rfl)⟩) rfl rfl
              (fc 132 (.bool (decide (x53 = r55))) (hd_v rfl fun ρ hρ => ⟨rfl, opv_move rfl rfl ((hρ 131 (lmem rfl)).trans rfl)⟩) rfl rfl
              (fc 133 undef (hd_s rfl (fun ρ hρ => ⟨_, rfl, .inl ⟨_, ((hρ 132 (lmem rfl)).trans rfl), gq hb57 rfl⟩⟩) rfl) rfl rfl
              (fc 134 undef (hd_s rfl (fun ρ hρ => ⟨_, rfl, .inl ⟨_, ((hρ 132 (lmem rfl)).trans rfl), gq hb57 rfl⟩⟩) rfl) rfl rfl
              (fc 135 undef (hd_s rfl (fun ρ hρ => ⟨_, rfl, .inl ⟨_, ((hρ 132 (lmem rfl)).trans rfl), gq hb57 rfl⟩⟩) rfl) rfl rfl
              (fc 136 (.bool false) (hd_v rfl fun ρ hρ => ⟨rfl, ov_pickF rfl rfl rfl rfl ((hρ 132 (lmem rfl)).trans rfl) hb57 rfl⟩) rfl rfl
              (fc 4 (.bool false) (hd_v rfl fun ρ hρ => ⟨rfl, opv_assign rfl rfl ((hρ 136 (lmem rfl)).trans rfl)⟩) rfl rfl
              ffn)))))))))) ?_
            refine lt_end ?_
            exact ago_retE (rfl : C6_54 = .ret) (r := false) (ares_1 rfl (oneT rfl)) rfl H
        · replace H := cnd_f H hb44
          refine ago_drawH (p := [0, 1, 2, 3, 4, 5, 6, 7, 8, 9, 10, 11, 12, 13, 14, 15, 16, 17, 18, 19, 20, 21, 22, 23, 24]) (tl := [(25, [21, 22], [26, 27, 28, 29, 30, 31, 32, 33])]) (hv := [(0, p1), (1, Value.int .u64 x9), (2, Value.int .u64 same_13), (3, Value.bool (decide (x9 = same_13))), (4, Value.bool (decide (x9 = same_13))), (5, p12), (6, Value.int .i64 x20), (7, Value.bool (decide (x20 = 4))), (8, Value.bool (decide (x20 = 4))), (9, Value.bool (decide (x20 = 4))), (10, p23), (11, Value.int .u64 x31), (12, Value.int .u64 same_13), (13, Value.bool (decide (x31 = same_13))), (14, Value.bool (decide (x31 = same_13))), (15, Value.bool (decide (x31 = same_13))), (16, p34), (17, Value.int .i64 x42), (18, Value.bool (decide (x42 = 5))), (19, Value.bool (decide (x42 = 5))), (20, Value.bool (decide (x42 = 5))), (21, undef), (22, undef), (23, undef), (24, undef)]) (rfl : C6_53 = .region 17 R6_17 true) mixed R6_17_N R6_17_O rfl (pv_cons rfl (pv_cons rfl (pv_cons rfl (pv_cons rfl (pv_cons rfl (pv_cons rfl (pv_cons rfl (pv_cons rfl (pv_cons rfl (pv_cons rfl (pv_cons rfl (pv_cons rfl (pv_cons rfl (pv_cons rfl (pv_cons rfl (pv_cons rfl (pv_cons rfl (pv_cons rfl (pv_cons rfl (pv_cons rfl (pv_cons rfl (pv_cons rfl (pv_cons rfl (pv_cons rfl (pv_cons rfl (pv_nil _))))))))))))))))))))))))))
            (fc 104 p1 (hd_v rfl fun ρ hρ => ⟨rfl, ov_fldA rfl rfl underlying29 rfl sz26 (by decide) ((hρ 7 (lmem rfl)).trans h7) hp4 rfl hv5⟩) rfl rfl
            (fc 105 (.int .u64 x9) (hd_v rfl fun ρ hρ => ⟨rfl, ov_ldI rfl underlying26 rfl ((hρ 104 (lmem rfl)).trans rfl) hp8 hg10⟩) rfl rfl
            (fc 106 (.int .u64 same_13) (hd_v rfl fun ρ hρ => ⟨rfl, opv_move rfl rfl ((hρ 13 (lmem rfl)).trans h13)⟩) rfl rfl
            (fc 107 (.bool (decide (x9 = same_13))) (hd_v rfl fun ρ hρ => ⟨rfl, opv_eqI rfl rfl rfl ((hρ 105 (lmem rfl)).trans rfl) ((hρ 106 (lmem rfl)).trans rfl)⟩) rfl rfl
            (fc 108 (.bool (decide (x9 = same_13))) (hd_v rfl fun ρ hρ => ⟨rfl, opv_move rfl rfl ((hρ 107 (lmem rfl)).trans rfl)⟩) rfl rfl
            (fc 109 p12 (hd_v rfl fun ρ hρ => ⟨⟨_, rfl, .inl ⟨_, ((hρ 108 (lmem rfl)).trans rfl), gq hb11 rfl⟩⟩, ov_fldA rfl rfl underlying29 rfl sz3 (by decide) ((hρ 7 (lmem rfl)).trans h7) hp15 rfl hv16⟩) rfl rfl
            (fc 110 (.int .i64 x20) (hd_v rfl fun ρ hρ => ⟨⟨_, rfl, .inl ⟨_, ((hρ 108 (lmem rfl)).trans rfl), gq hb11 rfl⟩⟩, ov_ldI rfl underlying3 rfl ((hρ 109 (lmem rfl)).trans rfl) hp19 hg21⟩) rfl rfl
            (fc 111 (.bool (decide (x20 = 4))) (hd_v rfl fun ρ hρ => ⟨⟨_, rfl, .inl ⟨_, ((hρ 108 (lmem rfl)).trans rfl), gq hb11 rfl⟩⟩, opv_eqI rfl rfl rfl ((hρ 110 (lmem rfl)).trans rfl) rfl⟩) rfl rfl
            (fc 112 (.bool (decide (x20 = 4))) (hd_v rfl fun ρ hρ => ⟨rfl, ov_pickT rfl rfl rfl rfl ((hρ 108 (lmem rfl)).trans rfl) hb11 ((hρ 111 (lmem rfl)).trans rfl)⟩) rfl rfl
            (fc 113 (.bool (decide (x20 = 4))) (hd_v rfl fun ρ hρ => ⟨rfl, opv_move rfl rfl ((hρ 112 (lmem rfl)).trans rfl)⟩) rfl rfl
            (fc 114 p23 (hd_v rfl fun ρ hρ => ⟨⟨_, rfl, .inl ⟨_, ((hρ 113 (lmem rfl)).trans rfl), gq hb22 rfl⟩⟩, ov_fldA rfl rfl underlying29 rfl sz26 (by decide) ((hρ 9 (lmem rfl)).trans h9) hp26 rfl hv27⟩) rfl rfl
            (fc 115 (.int .u64 x31) (hd_v rfl fun ρ hρ => ⟨⟨_, rfl, .inl ⟨_, ((hρ 113 (lmem rfl)).trans rfl), gq hb22 rfl⟩⟩, ov_ldI rfl underlying26 rfl ((hρ 114 (lmem rfl)).trans rfl) hp30 hg32⟩) rfl rfl
            (fc 116 (.int .u64 same_13) (hd_v rfl fun ρ hρ => ⟨⟨_, rfl, .inl ⟨_, ((hρ 113 (lmem rfl)).trans rfl), gq hb22 rfl⟩⟩, opv_move rfl rfl ((hρ 13 (lmem rfl)).trans h13)⟩) rfl rfl
            (fc 117 (.bool (decide (x31 = same_13))) (hd_v rfl fun ρ hρ => ⟨⟨_, rfl, .inl ⟨_, ((hρ 113 (lmem rfl)).trans rfl), gq hb22 rfl⟩⟩, opv_eqI rfl rfl rfl ((hρ 115 (lmem rfl)).trans rfl) ((hρ 116 (lmem rfl)).trans rfl)⟩) rfl rfl
            (fc 118 (.bool (decide (x31 = same_13))) (hd_v rfl fun ρ hρ => ⟨rfl, ov_pickT rfl rfl rfl rfl ((hρ 113 (lmem rfl)).trans rfl) hb22 ((hρ 117 (lmem rfl)).trans rfl)⟩) rfl rfl
            (fc 119 (.bool (decide (x31 = same_13))) (hd_v rfl fun ρ hρ => ⟨rfl, opv_move rfl rfl ((hρ 118 (lmem rfl)).trans rfl)⟩) rfl rfl
            (fc 120 p34 (hd_v rfl fun ρ hρ => ⟨⟨_, rfl, .inl ⟨_, ((hρ 119 (lmem rfl)).trans rfl), gq hb33 rfl⟩⟩, ov_fldA rfl rfl underlying29 rfl sz3 (by decide) ((hρ 9 (lmem rfl)).trans h9) hp37 rfl hv38⟩) rfl rfl
            (fc 121 (.int .i64 x42) (hd_v rfl fun ρ hρ => ⟨⟨_, rfl, .inl ⟨_, ((hρ 119 (lmem rfl)).trans rfl), gq hb33 rfl⟩⟩, ov_ldI rfl underlying3 rfl ((hρ 120 (lmem rfl)).trans rfl) hp41 hg43⟩) rfl rfl
            (fc 122 (.bool (decide (x42 = 5))) (hd_v rfl fun ρ hρ => ⟨⟨_, rfl, .inl ⟨_, ((hρ 119 (lmem rfl)).trans rfl), gq hb33 rfl⟩⟩, opv_eqI rfl rfl rfl ((hρ 121 (lmem rfl)).trans rfl) rfl⟩) rfl rfl
            (fc 123 (.bool (decide (x42 = 5))) (hd_v rfl fun ρ hρ => ⟨rfl, ov_pickT rfl rfl rfl rfl ((hρ 119 (lmem rfl)).trans rfl) hb33 ((hρ 122 (lmem rfl)).trans rfl)⟩) rfl rfl
            (fc 124 (.bool (decide (x42 = 5))) (hd_v rfl fun ρ hρ => ⟨rfl, opv_move rfl rfl ((hρ 123 (lmem rfl)).trans rfl)⟩) rfl rfl
            (fc 125 undef (hd_s rfl (fun ρ hρ => ⟨_, rfl, .inl ⟨_, ((hρ 124 (lmem rfl)).trans rfl), gq hb44 rfl⟩⟩) rfl) rfl rfl
            (fc 126 undef (hd_s rfl (fun ρ hρ => ⟨_, rfl, .inl ⟨_, ((hρ 124 (lmem rfl)).trans rfl), gq hb44 rfl⟩⟩) rfl) rfl rfl
            (fc 127 undef (hd_s rfl (fun ρ hρ => ⟨_, rfl, .inl ⟨_, ((hρ 124 (lmem rfl)).trans rfl), gq hb44 rfl⟩⟩) rfl) rfl rfl
            (fc 128 undef (hd_s rfl (fun ρ hρ => ⟨_, rfl, .inl ⟨_, ((hρ 124 (lmem rfl)).trans rfl), gq hb44 rfl⟩⟩) rfl) rfl rfl
            ffn))))))))))))))))))))))))) ?_
          refine lt_skip (dt := some 129) rfl rfl (fun ρ hρ => ⟨_, rfl, .inl ⟨_, ((hρ 124 (lmem rfl)).trans rfl), gq hb44 rfl⟩⟩) ?_
          refine lt_next (l := [21, 22, 26, 27, 28, 29, 30, 31, 32, 33]) (hv := [(26, undef), (27, Value.bool false), (28, Value.bool false), (29, undef), (30, undef), (31, undef), (32, Value.bool false), (33, Value.bool false)]) rfl rfl (pv_cons rfl (pv_cons rfl (pv_cons rfl (pv_cons rfl (pv_cons rfl (pv_cons rfl (pv_cons rfl (pv_cons rfl (pv_nil _)))))))))
            (fc 125 undef (hd_s rfl (fun ρ hρ => ⟨_, rfl, .inl ⟨_, ((hρ 124 (lmem rfl)).trans rfl), gq hb44 rfl⟩⟩) rfl) rfl rfl
            (fc 126 undef (hd_s rfl (fun ρ hρ => ⟨_, rfl, .inl ⟨_, ((hρ 124 (lmem rfl)).trans rfl), gq hb44 rfl⟩⟩) rfl) rfl rfl
            (fc 130 undef (hd_s rfl (fun ρ hρ => ⟨_, rfl, .inl ⟨_, ((hρ 124 (lmem rfl)).trans rfl), gq hb44 rfl⟩⟩) rfl) rfl rfl
            (fc 131 (.bool false) (hd_v rfl fun ρ hρ => ⟨rfl, ov_pickF rfl rfl rfl rfl ((hρ 124 (lmem rfl)).trans rfl) hb44 rfl⟩) rfl rfl
            (fc 132 (.bool false) (hd_v rfl fun ρ hρ => ⟨rfl, opv_move rfl rfl ((hρ 131 (lmem rfl)).trans rfl)⟩) rfl rfl
            (fc 133 undef (hd_s rfl (fun ρ hρ => ⟨_, rfl, .inl ⟨_, ((hρ 132 (lmem rfl)).trans rfl), gq rfl rfl⟩⟩) rfl) rfl rfl
            (fc 134 undef (hd_s rfl (fun ρ hρ => ⟨_, rfl, .inl ⟨_, ((hρ 132 (lmem rfl)).trans rfl), gq rfl rfl⟩⟩) rfl) rfl rfl
            (fc 135 undef (hd_s rfl (fun ρ hρ => ⟨_, rfl, .inl ⟨_, ((hρ 132 (lmem rfl)).trans rfl), gq rfl rfl⟩⟩) rfl) rfl rfl
            (fc 136 (.bool false) (hd_v rfl fun ρ hρ => ⟨rfl, ov_pickF rfl rfl rfl rfl ((hρ 132 (lmem rfl)).trans rfl) rfl rfl⟩) rfl rfl
            (fc 4 (.bool false) (hd_v rfl fun ρ hρ => ⟨rfl, opv_assign rfl rfl ((hρ 136 (lmem rfl)).trans rfl)⟩) rfl rfl
            ffn)))))))))) ?_
          refine lt_end ?_
          exact ago_retE (rfl : C6_54 = .ret) (r := false) (ares_1 rfl (oneT rfl)) rfl H
      · replace H := cnd_f H hb33
        refine ago_drawH (p := [0, 1, 2, 3, 4, 5, 6, 7, 8, 9, 10, 11, 12, 13, 14, 15, 16, 17, 18, 19, 20, 21, 22, 23, 24]) (tl := [(25, [21, 22], [26, 27, 28, 29, 30, 31, 32, 33])]) (hv := [(0, p1), (1, Value.int .u64 x9), (2, Value.int .u64 same_13), (3, Value.bool (decide (x9 = same_13))), (4, Value.bool (decide (x9 = same_13))), (5, p12), (6, Value.int .i64 x20), (7, Value.bool (decide (x20 = 4))), (8, Value.bool (decide (x20 = 4))), (9, Value.bool (decide (x20 = 4))), (10, p23), (11, Value.int .u64 x31), (12, Value.int .u64 same_13), (13, Value.bool (decide (x31 = same_13))), (14, Value.bool (decide (x31 = same_13))), (15, Value.bool (decide (x31 = same_13))), (16, undef), (17, undef), (18, undef), (19, Value.bool false), (20, Value.bool false), (21, undef), (22, undef), (23, undef), (24, undef)]) (rfl : C6_53 = .region 17 R6_17 true) mixed R6_17_N R6_17_O rfl (pv_cons rfl (pv_cons rfl (pv_cons rfl (pv_cons rfl (pv_cons rfl (pv_cons rfl (pv_cons rfl (pv_cons rfl (pv_cons rfl (pv_cons rfl (pv_cons rfl (pv_cons rfl (pv_cons rfl (pv_cons rfl (pv_cons rfl (pv_cons rfl (pv_cons rfl (pv_cons rfl (pv_cons rfl (pv_cons rfl (pv_cons rfl (pv_cons rfl (pv_cons rfl (pv_cons rfl (pv_cons rfl (pv_nil _))))))))))))))))))))))))))
          (fc 104 p1 (hd_v rfl fun ρ hρ => ⟨rfl, ov_fldA rfl rfl underlying29 rfl sz26 (by decide) ((hρ 7 (lmem rfl)).trans h7) hp4 rfl hv5⟩) rfl rfl
          (fc 105 (.int .u64 x9) (hd_v rfl fun ρ hρ => ⟨rfl, ov_ldI rfl underlying26 rfl ((hρ 104 (lmem rfl)).trans rfl) hp8 hg10⟩) rfl rfl
          (fc 106 (.int .u64 same_13) (hd_v rfl fun ρ hρ => ⟨rfl, opv_move rfl rfl ((hρ 13 (lmem rfl)).trans h13)⟩) rfl rfl
          (fc 107 (.bool (decide (x9 = same_13))) (hd_v rfl fun ρ hρ => ⟨rfl, opv_eqI rfl rfl rfl ((hρ 105 (lmem rfl)).trans rfl) ((hρ 106 (lmem rfl)).trans rfl)⟩) rfl rfl
          (fc 108 (.bool (decide (x9 = same_13))) (hd_v rfl fun ρ hρ => ⟨rfl, opv_move rfl rfl ((hρ 107 (lmem rfl)).trans rfl)⟩) rfl rfl
          (fc 109 p12 (hd_v rfl fun ρ hρ => ⟨⟨_, rfl, .inl ⟨_, ((hρ 108 (lmem rfl)).trans rfl), gq hb11 rfl⟩⟩, ov_fldA rfl rfl underlying29 rfl sz3 (by decide) ((hρ 7 (lmem rfl)).trans h7) hp15 rfl hv16⟩) rfl rfl
          (fc 110 (.int .i64 x20) (hd_v rfl fun ρ hρ => ⟨⟨_, rfl, .inl ⟨_, ((hρ 108 (lmem rfl)).trans rfl), gq hb11 rfl⟩⟩, ov_ldI rfl underlying3 rfl ((hρ 109 (lmem rfl)).trans rfl) hp19 hg21⟩) rfl rfl
          (fc 111 (.bool (decide (x20 = 4))) (hd_v rfl fun ρ hρ => ⟨⟨_, rfl, .inl ⟨_, ((hρ 108 (lmem rfl)).trans rfl), gq hb11 rfl⟩⟩, opv_eqI rfl rfl rfl ((hρ 110 (lmem rfl)).trans rfl) rfl⟩) rfl rfl
          (fc 112 (.bool (decide (x20 = 4))) (hd_v rfl fun ρ hρ => ⟨rfl, ov_pickT rfl rfl rfl rfl ((hρ 108 (lmem rfl)).trans rfl) hb11 ((hρ 111 (lmem rfl)).trans rfl)⟩) rfl rfl
          (fc 113 (.bool (decide (x20 = 4))) (hd_v rfl fun ρ hρ => ⟨rfl, opv_move rfl rfl ((hρ 112 (lmem rfl)).trans rfl)⟩) rfl rfl
          (fc 114 p23 (hd_v rfl fun ρ hρ => ⟨⟨_, rfl, .inl ⟨_, ((hρ 113 (lmem rfl)).trans rfl), gq hb22 rfl⟩⟩, ov_fldA rfl rfl underlying29 rfl sz26 (by decide) ((hρ 9 (lmem rfl)).trans h9) hp26 rfl hv27⟩) rfl rfl
          (fc 115 (.int .u64 x31) (hd_v rfl fun ρ hρ => ⟨⟨_, rfl, .inl ⟨_, ((hρ 113 (lmem rfl)).trans rfl), gq hb22 rfl⟩⟩, ov_ldI rfl underlying26 rfl ((hρ 114 (lmem rfl)).trans rfl) hp30 hg32⟩) rfl rfl
          (fc 116 (.int .u64 same_13) (hd_v rfl fun ρ hρ => ⟨⟨_, rfl, .inl ⟨_, ((hρ 113 (lmem rfl)).trans rfl), gq hb22 rfl⟩⟩, opv_move rfl rfl ((hρ 13 (lmem rfl)).trans h13)⟩) rfl rfl
          (fc 117 (.bool (decide (x31 = same_13))) (hd_v rfl fun ρ hρ => ⟨⟨_, rfl, .inl ⟨_, ((hρ 113 (lmem rfl)).trans rfl), gq hb22 rfl⟩⟩, opv_eqI rfl rfl rfl ((hρ 115 (lmem rfl)).trans rfl) ((hρ 116 (lmem rfl)).trans rfl)⟩) rfl rfl
          (fc 118 (.bool (decide (x31 = same_13))) (hd_v rfl fun ρ hρ => ⟨rfl, ov_pickT rfl rfl rfl rfl ((hρ 113 (lmem rfl)).trans rfl) hb22 ((hρ 117 (lmem rfl)).trans rfl)⟩) rfl rfl
          (fc 119 (.bool (decide (x31 = same_13))) (hd_v rfl fun ρ hρ => ⟨rfl, opv_move rfl rfl ((hρ 118 (lmem rfl)).trans rfl)⟩) rfl rfl
          (fc 120 undef (hd_s rfl (fun ρ hρ => ⟨_, rfl, .inl ⟨_, ((hρ 119 (lmem rfl)).trans rfl), gq hb33 rfl⟩⟩) rfl) rfl rfl
          (fc 121 undef (hd_s rfl (fun ρ hρ => ⟨_, rfl, .inl ⟨_, ((hρ 119 (lmem rfl)).trans rfl), gq hb33 rfl⟩⟩) rfl) rfl rfl
          (fc 122 undef (hd_s rfl (fun ρ hρ => ⟨_, rfl, .inl ⟨_, ((hρ 119 (lmem rfl)).trans rfl), gq hb33 rfl⟩⟩) rfl) rfl rfl
          (fc 123 (.bool false) (hd_v rfl fun ρ hρ => ⟨rfl, ov_pickF rfl rfl rfl rfl ((hρ 119 (lmem rfl)).trans rfl) hb33 rfl⟩) rfl rfl
          (fc 124 (.bool false) (hd_v rfl fun ρ hρ => ⟨rfl, opv_move rfl rfl ((hρ 123 (lmem rfl)).trans rfl)⟩) rfl rfl
          (fc 125 undef (hd_s rfl (fun ρ hρ => ⟨_, rfl, .inl ⟨_, ((hρ 124 (lmem rfl)).trans rfl), gq rfl rfl⟩⟩) rfl) rfl rfl
          (fc 126 undef (hd_s rfl (fun ρ hρ => ⟨_, rfl, .inl ⟨_, ((hρ 124 (lmem rfl)).trans rfl), gq rfl rfl⟩⟩) rfl) rfl rfl
          (fc 127 undef (hd_s rfl (fun ρ hρ => ⟨_, rfl, .inl ⟨_, ((hρ 124 (lmem rfl)).trans rfl), gq rfl rfl⟩⟩) rfl) rfl rfl
          (fc 128 undef (hd_s rfl (fun ρ hρ => ⟨_, rfl, .inl ⟨_, ((hρ 124 (lmem rfl)).trans rfl), gq rfl rfl⟩⟩) rfl) rfl rfl
          ffn))))))))))))))))))))))))) ?_
        refine lt_skip (dt := some 129) rfl rfl (fun ρ hρ => ⟨_, rfl, .inl ⟨_, ((hρ 124 (lmem rfl)).trans rfl), gq rfl rfl⟩⟩) ?_
        refine lt_next (l := [21, 22, 26, 27, 28, 29, 30, 31, 32, 33]) (hv := [(26, undef), (27, Value.bool false), (28, Value.bool false), (29, undef), (30, undef), (31, undef), (32, Value.bool false), (33, Value.bool false)]) rfl rfl (pv_cons rfl (pv_cons rfl (pv_cons rfl (pv_cons rfl (pv_cons rfl (pv_cons rfl (pv_cons rfl (pv_cons rfl (pv_nil _)))))))))
          (fc 125 undef (hd_s rfl (fun ρ hρ => ⟨_, rfl, .inl ⟨_, ((hρ 124 (lmem rfl)).trans rfl), gq rfl rfl⟩⟩) rfl) rfl rfl
          (fc 126 undef (hd_s rfl (fun ρ hρ => ⟨_, rfl, .inl ⟨_, ((hρ 124 (lmem rfl)).trans rfl), gq rfl rfl⟩⟩) rfl) rfl rfl
          (fc 130 undef (hd_s rfl (fun ρ hρ => ⟨_, rfl, .inl ⟨_, ((hρ 124 (lmem rfl)).trans rfl), gq rfl rfl⟩⟩) rfl) rfl rfl
          (fc 131 (.bool false) (hd_v rfl fun ρ hρ => ⟨rfl, ov_pickF rfl rfl rfl rfl ((hρ 124 (lmem rfl)).trans rfl) rfl rfl⟩) rfl rfl
          (fc 132 (.bool false) (hd_v rfl fun ρ hρ => ⟨rfl, opv_move rfl rfl ((hρ 131 (lmem rfl)).trans rfl)⟩) rfl rfl
          (fc 133 undef (hd_s rfl (fun ρ hρ => ⟨_, rfl, .inl ⟨_, ((hρ 132 (lmem rfl)).trans rfl), gq rfl rfl⟩⟩) rfl) rfl rfl
          (fc 134 undef (hd_s rfl (fun ρ hρ => ⟨_, rfl, .inl ⟨_, ((hρ 132 (lmem rfl)).trans rfl), gq rfl rfl⟩⟩) rfl) rfl rfl
          (fc 135 undef (hd_s rfl (fun ρ hρ => ⟨_, rfl, .inl ⟨_, ((hρ 132 (lmem rfl)).trans rfl), gq rfl rfl⟩⟩) rfl) rfl rfl
          (fc 136 (.bool false) (hd_v rfl fun ρ hρ => ⟨rfl, ov_pickF rfl rfl rfl rfl ((hρ 132 (lmem rfl)).trans rfl) rfl rfl⟩) rfl rfl
          (fc 4 (.bool false) (hd_v rfl fun ρ hρ => ⟨rfl, opv_assign rfl rfl ((hρ 136 (lmem rfl)).trans rfl)⟩) rfl rfl
          ffn)))))))))) ?_
        refine lt_end ?_
        exact ago_retE (rfl : C6_54 = .ret) (r := false) (ares_1 rfl (oneT rfl)) rfl H
    · replace H := cnd_f H hb22
      refine ago_drawH (p := [0, 1, 2, 3, 4, 5, 6, 7, 8, 9, 10, 11, 12, 13, 14, 15, 16, 17, 18, 19, 20, 21, 22, 23, 24]) (tl := [(25, [21, 22], [26, 27, 28, 29, 30, 31, 32, 33])]) (hv := [(0, p1), (1, Value.int .u64 x9), (2, Value.int .u64 same_13), (3, Value.bool (decide (x9 = same_13))), (4, Value.bool (decide (x9 = same_13))), (5, p12), (6, Value.int .i64 x20), (7, Value.bool (decide (x20 = 4))), (8, Value.bool (decide (x20 = 4))), (9, Value.bool (decide (x20 = 4))), (10, undef), (11, undef), (12, undef), (13, undef), (14, Value.bool false), (15, Value.bool false), (16, undef), (17, undef), (18, undef), (19, Value.bool false), (20, Value.bool false), (21, undef), (22, undef), (23, undef), (24, undef)]) (rfl : C6_53 = .region 17 R6_17 true) mixed R6_17_N R6_17_O rfl (pv_cons rfl (pv_cons rfl (pv_cons rfl (pv_cons rfl (pv_cons rfl (pv_cons rfl (pv_cons rfl (pv_cons rfl (pv_cons rfl (pv_cons rfl (pv_cons rfl (pv_cons rfl (pv_cons rfl (pv_cons rfl (pv_cons rfl (pv_cons rfl (pv_cons rfl (pv_cons rfl (pv_cons rfl (pv_cons rfl (pv_cons rfl (pv_cons rfl (pv_cons rfl (pv_cons rfl (pv_cons rfl (pv_nil _))))))))))))))))))))))))))
        (fc 104 p1 (hd_v rfl fun ρ hρ => ⟨rfl, ov_fldA rfl rfl underlying29 rfl sz26 (by decide) ((hρ 7 (lmem rfl)).trans h7) hp4 rfl hv5⟩) rfl rfl
        (fc 105 (.int .u64 x9) (hd_v rfl fun ρ hρ => ⟨rfl, ov_ldI rfl underlying26 rfl ((hρ 104 (lmem rfl)).trans rfl) hp8 hg10⟩) rfl rfl
        (fc 106 (.int .u64 same_13) (hd_v rfl fun ρ hρ => ⟨rfl, opv_move rfl rfl ((hρ 13 (lmem rfl)).trans h13)⟩) rfl rfl
        (fc 107 (.bool (decide (x9 = same_13))) (hd_v rfl fun ρ hρ => ⟨rfl, opv_eqI rfl rfl rfl ((hρ 105 (lmem rfl)).trans rfl) ((hρ 106 (lmem rfl)).trans rfl)⟩) rfl rfl
        (fc 108 (.bool (decide (x9 = same_13))) (hd_v rfl fun ρ hρ => ⟨rfl, opv_move rfl rfl ((hρ 107 (lmem rfl)).trans rfl)⟩) rfl rfl
        (fc 109 p12 (hd_v rfl fun ρ hρ => ⟨⟨_, rfl, .inl ⟨_, ((hρ 108 (lmem rfl)).trans rfl), gq hb11 rfl⟩⟩, ov_fldA rfl rfl underlying29 rfl sz3 (by decide) ((hρ 7 (lmem rfl)).trans h7) hp15 rfl hv16⟩) rfl rfl
        (fc 110 (.int .i64 x20) (hd_v rfl fun ρ hρ => ⟨⟨_, rfl, .inl ⟨_, ((hρ 108 (lmem rfl)).trans rfl), gq hb11 rfl⟩⟩, ov_ldI rfl underlying3 rfl ((hρ 109 (lmem rfl)).trans rfl) hp19 hg21⟩) rfl rfl
        (fc 111 (.bool (decide (x20 = 4))) (hd_v rfl fun ρ hρ => ⟨⟨_, rfl, .inl ⟨_, ((hρ 108 (lmem rfl)).trans rfl), gq hb11 rfl⟩⟩, opv_eqI rfl rfl rfl ((hρ 110 (lmem rfl)).trans rfl) rfl⟩) rfl rfl
        (fc 112 (.bool (decide (x20 = 4))) (hd_v rfl fun ρ hρ => ⟨rfl, ov_pickT rfl rfl rfl rfl ((hρ 108 (lmem rfl)).trans rfl) hb11 ((hρ 111 (lmem rfl)).trans rfl)⟩) rfl rfl
        (fc 113 (.bool (decide (x20 = 4))) (hd_v rfl fun ρ hρ => ⟨rfl, opv_move rfl rfl ((hρ 112 (lmem rfl)).trans rfl)⟩) rfl rfl
        (fc 114 undef (hd_s rfl (fun ρ hρ => ⟨_, rfl, .inl ⟨_, ((hρ 113 (lmem rfl)).trans rfl), gq hb22 rfl⟩⟩) rfl) rfl rfl
        (fc 115 undef (hd_s rfl (fun ρ hρ => ⟨_, rfl, .inl ⟨_, ((hρ 113 (lmem rfl)).trans rfl), gq hb22 rfl⟩⟩) rfl) rfl rfl
        (fc 116 undef (hd_s rfl (fun ρ hρ => ⟨_, rfl, .inl ⟨_, ((hρ 113 (lmem rfl)).trans rfl), gq hb22 rfl⟩⟩) rfl) rfl rfl
        (fc 117 undef (hd_s rfl (fun ρ hρ => ⟨_, rfl, .inl ⟨_, ((hρ 113 (lmem rfl)).trans rfl), gq hb22 rfl⟩⟩) rfl) rfl rfl
        (fc 118 (.bool false) (hd_v rfl fun ρ hρ => ⟨rfl, ov_pickF rfl rfl rfl rfl ((hρ 113 (lmem rfl)).trans rfl) hb22 rfl⟩) rfl rfl
        (fc 119 (.bool false) (hd_v rfl fun ρ hρ => ⟨rfl, opv_move rfl rfl ((hρ 118 (lmem rfl)).trans rfl)⟩) rfl rfl
        (fc 120 undef (hd_s rfl (fun ρ hρ => ⟨_, rfl, .inl ⟨_, ((hρ 119 (lmem rfl)).trans rfl), gq rfl rfl⟩⟩) rfl) rfl rfl
        (fc 121 undef (hd_s rfl (fun ρ hρ => ⟨_, rfl, .inl ⟨_, ((hρ 119 (lmem rfl)).trans rfl), gq rfl rfl⟩⟩) rfl) rfl rfl
        (fc 122 undef (hd_s rfl (fun ρ hρ => ⟨_, rfl, .inl ⟨_, ((hρ 119 (lmem rfl)).trans rfl), gq rfl rfl⟩⟩) rfl) rfl rfl
        (fc 123 (.bool false) (hd_v rfl fun ρ hρ => ⟨rfl, ov_pickF rfl rfl rfl rfl ((hρ 119 (lmem rfl)).trans rfl) rfl rfl⟩) rfl rfl
        (fc 124 (.bool false) (hd_v rfl fun ρ hρ => ⟨rfl, opv_move rfl rfl ((hρ 123 (lmem rfl)).trans rfl)⟩) rfl rfl
        (fc 125 undef (hd_s rfl (fun ρ hρ => ⟨_, rfl, .inl ⟨_, ((hρ 124 (lmem rfl)).trans rfl), gq rfl rfl⟩⟩) rfl) rfl rfl
        (fc 126 undef (hd_s rfl (fun ρ hρ => ⟨_, rfl, .inl ⟨_, ((hρ 124 (lmem rfl)).trans rfl), gq rfl rfl⟩⟩) rfl) rfl rfl
        (fc 127 undef (hd_s rfl (fun ρ hρ => ⟨_, rfl, .inl ⟨_, ((hρ 124 (lmem rfl)).trans rfl), gq rfl rfl⟩⟩) rfl) rfl rfl
        (fc 128 undef (hd_s rfl (fun ρ hρ => ⟨_, rfl, .inl ⟨_, ((hρ 124 (lmem rfl)).trans rfl), gq rfl rfl⟩⟩) rfl) rfl rfl
        ffn))))))))))))))))))))))))) ?_
      refine lt_skip (dt := some 129) rfl rfl (fun ρ hρ => ⟨_, rfl, .inl ⟨_, ((hρ 124 (lmem rfl)).trans rfl), gq rfl rfl⟩⟩) ?_
      refine lt_next (l := [21, 22, 26, 27, 28, 29, 30, 31, 32, 33]) (hv := [(26, undef), (27, Value.bool false), (28, Value.bool false), (29, undef), (30, undef), (31, undef), (32, Value.bool false), (33, Value.bool false)]) rfl rfl (pv_cons rfl (pv_cons rfl (pv_cons rfl (pv_cons rfl (pv_cons rfl (pv_cons rfl (pv_cons rfl (pv_cons rfl (pv_nil _)))))))))
        (fc 125 undef (hd_s rfl (fun ρ hρ => ⟨_, rfl, .inl ⟨_, ((hρ 124 (lmem rfl)).trans rfl), gq rfl rfl⟩⟩) rfl) rfl rfl
        (fc 126 undef (hd_s rfl (fun ρ hρ => ⟨_, rfl, .inl ⟨_, ((hρ 124 (lmem rfl)).trans rfl), gq rfl rfl⟩⟩) rfl) rfl rfl
        (fc 130 undef (hd_s rfl (fun ρ hρ => ⟨_, rfl, .inl ⟨_, ((hρ 124 (lmem rfl)).trans rfl), gq rfl rfl⟩⟩) rfl) rfl rfl
        (fc 131 (.bool false) (hd_v rfl fun ρ hρ => ⟨rfl, ov_pickF rfl rfl rfl rfl ((hρ 124 (lmem rfl)).trans rfl) rfl rfl⟩) rfl rfl
        (fc 132 (.bool false) (hd_v rfl fun ρ hρ => ⟨rfl, opv_move rfl rfl ((hρ 131 (lmem rfl)).trans rfl)⟩) rfl rfl
        (fc 133 undef (hd_s rfl (fun ρ hρ => ⟨_, rfl, .inl ⟨_, ((hρ 132 (lmem rfl)).trans rfl), gq rfl rfl⟩⟩) rfl) rfl rfl
        (fc 134 undef (hd_s rfl (fun ρ hρ => ⟨_, rfl, .inl ⟨_, ((hρ 132 (lmem rfl)).trans rfl), gq rfl rfl⟩⟩) rfl) rfl rfl
        (fc 135 undef (hd_s rfl (fun ρ hρ => ⟨_, rfl, .inl ⟨_, ((hρ 132 (lmem rfl)).trans rfl), gq rfl rfl⟩⟩) rfl) rfl rfl
        (fc 136 (.bool false) (hd_v rfl fun ρ hρ => ⟨rfl, ov_pickF rfl rfl rfl rfl ((hρ 132 (lmem rfl)).trans rfl) rfl rfl⟩) rfl rfl
        (fc 4 (.bool false) (hd_v rfl fun ρ hρ => ⟨rfl, opv_assign rfl rfl ((hρ 136 (lmem rfl)).trans rfl)⟩) rfl rfl
        ffn)))))))))) ?_
      refine lt_end ?_
      exact ago_retE (rfl : C6_54 = .ret) (r := false) (ares_1 rfl (oneT rfl)) rfl H
  · replace H := cnd_f H hb11
    refine ago_drawH (p := [0, 1, 2, 3, 4, 5, 6, 7, 8, 9, 10, 11, 12, 13, 14, 15, 16, 17, 18, 19, 20, 21, 22, 23, 24]) (tl := [(25, [21, 22], [26, 27, 28, 29, 30, 31, 32, 33])]) (hv := [(0, p1), (1, Value.int .u64 x9), (2, Value.int .u64 same_13), (3, Value.bool (decide (x9 = same_13))), (4, Value.bool (decide (x9 = same_13))), (5, undef), (6, undef), (7, undef), (8, Value.bool false), (9, Value.bool false), (10, undef), (11, undef), (12, undef), (13, undef), (14, Value.bool false), (15, Value.bool false), (16, undef), (17, undef), (18, undef), (19, Value.bool false), (20, Value.bool false), (21, undef), (22, undef), (23, undef), (24, undef)]) (rfl : C6_53 = .region 17 R6_17 true) mixed R6_17_N R6_17_O rfl (pv_cons rfl (pv_cons rfl (pv_cons rfl (pv_cons rfl (pv_cons rfl (pv_cons rfl (pv_cons rfl (pv_cons rfl (pv_cons rfl (pv_cons rfl (pv_cons rfl (pv_cons rfl (pv_cons rfl (pv_cons rfl (pv_cons rfl (pv_cons rfl (pv_cons rfl (pv_cons rfl (pv_cons rfl (pv_cons rfl (pv_cons rfl (pv_cons rfl (pv_cons rfl (pv_cons rfl (pv_cons rfl (pv_nil _))))))))))))))))))))))))))
      (fc 104 p1 (hd_v rfl fun ρ hρ => ⟨rfl, ov_fldA rfl rfl underlying29 rfl sz26 (by decide) ((hρ 7 (lmem rfl)).trans h7) hp4 rfl hv5⟩) rfl rfl
      (fc 105 (.int .u64 x9) (hd_v rfl fun ρ hρ => ⟨rfl, ov_ldI rfl underlying26 rfl ((hρ 104 (lmem rfl)).trans rfl) hp8 hg10⟩) rfl rfl
      (fc 106 (.int .u64 same_13) (hd_v rfl fun ρ hρ => ⟨rfl, opv_move rfl rfl ((hρ 13 (lmem rfl)).trans h13)⟩) rfl rfl
      (fc 107 (.bool (decide (x9 = same_13))) (hd_v rfl fun ρ hρ => ⟨rfl, opv_eqI rfl rfl rfl ((hρ 105 (lmem rfl)).trans rfl) ((hρ 106 (lmem rfl)).trans rfl)⟩) rfl rfl
      (fc 108 (.bool (decide (x9 = same_13))) (hd_v rfl fun ρ hρ => ⟨rfl, opv_move rfl rfl ((hρ 107 (lmem rfl)).trans rfl)⟩) rfl rfl
      (fc 109 undef (hd_s rfl (fun ρ hρ => ⟨_, rfl, .inl ⟨_, ((hρ 108 (lmem rfl)).trans rfl), gq hb11 rfl⟩⟩) rfl) rfl rfl
      (fc 110 undef (hd_s rfl (fun ρ hρ => ⟨_, rfl, .inl ⟨_, ((hρ 108 (lmem rfl)).trans rfl), gq hb11 rfl⟩⟩) rfl) rfl rfl
      (fc 111 undef (hd_s rfl (fun ρ hρ => ⟨_, rfl, .inl ⟨_, ((hρ 108 (lmem rfl)).trans rfl), gq hb11 rfl⟩⟩) rfl) rfl rfl
      (fc 112 (.bool false) (hd_v rfl fun ρ hρ => ⟨rfl, ov_pickF rfl rfl rfl rfl ((hρ 108 (lmem rfl)).trans rfl) hb11 rfl⟩) rfl rfl
      (fc 113 (.bool false) (hd_v rfl fun ρ hρ => ⟨rfl, opv_move rfl rfl ((hρ 112 (lmem rfl)).trans rfl)⟩) rfl rfl
      (fc 114 undef (hd_s rfl (fun ρ hρ => ⟨_, rfl, .inl ⟨_, ((hρ 113 (lmem rfl)).trans rfl), gq rfl rfl⟩⟩) rfl) rfl rfl
      (fc 115 undef (hd_s rfl (fun ρ hρ => ⟨_, rfl, .inl ⟨_, ((hρ 113 (lmem rfl)).trans rfl), gq rfl rfl⟩⟩) rfl) rfl rfl
      (fc 116 undef (hd_s rfl (fun ρ hρ => ⟨_, rfl, .inl ⟨_, ((hρ 113 (lmem rfl)).trans rfl), gq rfl rfl⟩⟩) rfl) rfl rfl
      (fc 117 undef (hd_s rfl (fun ρ hρ => ⟨_, rfl, .inl ⟨_, ((hρ 113 (lmem rfl)).trans rfl), gq rfl rfl⟩⟩) rfl) rfl rfl
      (fc 118 (.bool false) (hd_v rfl fun ρ hρ => ⟨rfl, ov_pickF rfl rfl rfl rfl ((hρ 113 (lmem rfl)).trans rfl) rfl rfl⟩) rfl rfl
      (fc 119 (.bool false) (hd_v rfl fun ρ hρ => ⟨rfl, opv_move rfl rfl ((hρ 118 (lmem rfl)).trans rfl)⟩) rfl rfl
      (fc 120 undef (hd_s rfl (fun ρ hρ => ⟨_, rfl, .inl ⟨_, ((hρ 119 (lmem rfl)).trans rfl), gq rfl rfl⟩⟩) rfl) rfl rfl
      (fc 121 undef (hd_s rfl (fun ρ hρ => ⟨_, rfl, .inl ⟨_, ((hρ 119 (lmem rfl)).trans rfl), gq rfl rfl⟩⟩) rfl) rfl rfl
      (fc 122 undef (hd_s rfl (fun ρ hρ => ⟨_, rfl, .inl ⟨_, ((hρ 119 (lmem rfl)).trans rfl), gq rfl rfl⟩⟩) rfl) rfl rfl
      (fc 123 (.bool false) (hd_v rfl fun ρ hρ => ⟨rfl, ov_pickF rfl rfl rfl rfl ((hρ 119 (lmem rfl)).trans rfl) rfl rfl⟩) rfl rfl
      (fc 124 (.bool false) (hd_v rfl fun ρ hρ => ⟨rfl, opv_move rfl rfl ((hρ 123 (lmem rfl)).trans rfl)⟩) rfl rfl
      (fc 125 undef (hd_s rfl (fun ρ hρ => ⟨_, rfl, .inl ⟨_, ((hρ 124 (lmem rfl)).trans rfl), gq rfl rfl⟩⟩) rfl) rfl rfl
      (fc 126 undef (hd_s rfl (fun ρ hρ => ⟨_, rfl, .inl ⟨_, ((hρ 124 (lmem rfl)).trans rfl), gq rfl rfl⟩⟩) rfl) rfl rfl
      (fc 127 undef (hd_s rfl (fun ρ hρ => ⟨_, rfl, .inl ⟨_, ((hρ 124 (lmem rfl)).trans rfl), gq rfl rfl⟩⟩) rfl) rfl rfl
      (fc 128 undef (hd_s rfl (fun ρ hρ => ⟨_, rfl, .inl ⟨_, ((hρ 124 (lmem rfl)).trans rfl), gq rfl rfl⟩⟩) rfl) rfl rfl
      ffn))))))))))))))))))))))))) ?_
    refine lt_skip (dt := some 129) rfl rfl (fun ρ hρ => ⟨_, rfl, .inl ⟨_, ((hρ 124 (lmem rfl)).trans rfl), gq rfl rfl⟩⟩) ?_
    refine lt_next (l := [21, 22, 26, 27, 28, 29, 30, 31, 32, 33]) (hv := [(26, undef), (27, Value.bool false), (28, Value.bool false), (29, undef), (30, undef), (31, undef), (32, Value.bool false), (33, Value.bool false)]) rfl rfl (pv_cons rfl (pv_cons rfl (pv_cons rfl (pv_cons rfl (pv_cons rfl (pv_cons rfl (pv_cons rfl (pv_cons rfl (pv_nil _)))))))))
      (fc 125 undef (hd_s rfl (fun ρ hρ => ⟨_, rfl, .inl ⟨_, ((hρ 124 (lmem rfl)).trans rfl), gq rfl rfl⟩⟩) rfl) rfl rfl
      (fc 126 undef (hd_s rfl (fun ρ hρ => ⟨_, rfl, .inl ⟨_, ((hρ 124 (lmem rfl)).trans rfl), gq rfl rfl⟩⟩) rfl) rfl rfl
      (fc 130 undef (hd_s rfl (fun ρ hρ => ⟨_, rfl, .inl ⟨_, ((hρ 124 (lmem rfl)).trans rfl), gq rfl rfl⟩⟩) rfl) rfl rfl
      (fc 131 (.bool false) (hd_v rfl fun ρ hρ => ⟨rfl, ov_pickF rfl rfl rfl rfl ((hρ 124 (lmem rfl)).trans rfl) rfl rfl⟩) rfl rfl
      (fc 132 (.bool false) (hd_v rfl fun ρ hρ => ⟨rfl, opv_move rfl rfl ((hρ 131 (lmem rfl)).trans rfl)⟩) rfl rfl
      (fc 133 undef (hd_s rfl (fun ρ hρ => ⟨_, rfl, .inl ⟨_, ((hρ 132 (lmem rfl)).trans rfl), gq rfl rfl⟩⟩) rfl) rfl rfl
      (fc 134 undef (hd_s rfl (fun ρ hρ => ⟨_, rfl, .inl ⟨_, ((hρ 132 (lmem rfl)).trans rfl), gq rfl rfl⟩⟩) rfl) rfl rfl
      (fc 135 undef (hd_s rfl (fun ρ hρ => ⟨_, rfl, .inl ⟨_, ((hρ 132 (lmem rfl)).trans rfl), gq rfl rfl⟩⟩) rfl) rfl rfl
      (fc 136 (.bool false) (hd_v rfl fun ρ hρ => ⟨rfl, ov_pickF rfl rfl rfl rfl ((hρ 132 (lmem rfl)).trans rfl) rfl rfl⟩) rfl rfl
      (fc 4 (.bool false) (hd_v rfl fun ρ hρ => ⟨rfl, opv_assign rfl rfl ((hρ 136 (lmem rfl)).trans rfl)⟩) rfl rfl
      ffn)))))))))) ?_
    refine lt_end ?_
    exact ago_retE (rfl : C6_54 = .ret) (r := false) (ares_1 rfl (oneT rfl)) rfl H
theorem S6_2_ok (Q : Bool → AW → Prop) (E : List PanicEntry → AW → Prop)  (ρ : Env) (a_0 : ByteArray) (b_1 : ByteArray) (aw : AW) (h0 : ρ 0 = .string a_0) (h1 : ρ 1 = .string b_1) (H : S6_2 Q E  a_0 b_1 aw) :
    AGo prog 137 [.code C6_38] ρ [] aw (RR prog f6 137 sh6 Q E) := by
  unfold S6_2 at H
  refine ago_seqE (rfl : C6_38 = .seq C6_39 C6_40) ?_
  refine ago_regE (rfl : C6_39 = .region 11 R6_11 false) (l := [0, 1, 2, 3, 4, 5, 6, 7, 8, 9, 10, 11, 12, 13]) rfl ?_
  refine lj 69 R6_11_N rfl rfl rfl (opv_move rfl rfl h0) ?_
  refine lj 70 R6_11_N rfl rfl rfl (ov_bld (r := [.int .u8 1, .int .i64 0, .int .i64 0, .string a_0]) rfl rfl bo34 (mp_cons rfl (mp_cons rfl rfl)) (fillP rfl rfl rfl rfl (fillP rfl rfl rfl rfl (fillN rfl)))) ?_
  refine lj 71 R6_11_N rfl rfl rfl (opv_move rfl rfl h1) ?_
  refine lj 72 R6_11_N rfl rfl rfl (ov_bld (r := [.int .u8 1, .int .i64 0, .int .i64 0, .string b_1]) rfl rfl bo34 (mp_cons rfl (mp_cons rfl rfl)) (fillP rfl rfl rfl rfl (fillP rfl rfl rfl rfl (fillN rfl)))) ?_
  refine lj 73 R6_11_N rfl rfl rfl (ov_bld (r := [.int .u8 20, .int .i64 5, .int .i64 0, .string (⟨#[]⟩ : ByteArray)]) rfl rfl bo34 (mp_cons rfl (mp_cons rfl rfl)) (fillP rfl rfl rfl rfl (fillP rfl rfl rfl rfl (fillN rfl)))) ?_
  refine lj 74 R6_11_N rfl rfl rfl (ov_bld (r := [.int .u8 8, .int .i64 0, .int .i64 0, .string (⟨#[]⟩ : ByteArray)]) rfl rfl bo34 (mp_cons rfl rfl) (fillP rfl rfl rfl rfl (fillN rfl))) ?_
  obtain ⟨p68, aw69, hp70, ha71, H⟩ := H
  refine lj 75 R6_11_N rfl rfl rfl (ov_bsA (r := [.int .u8 1, .int .i64 0, .int .i64 0, .string a_0, .int .u8 1, .int .i64 0, .int .i64 0, .string b_1, .int .u8 20, .int .i64 5, .int .i64 0, .string (⟨#[]⟩ : ByteArray), .int .u8 8, .int .i64 0, .int .i64 0, .string (⟨#[]⟩ : ByteArray)]) (vs := [.agg #[.int .u8 1, .int .i64 0, .int .i64 0, .string a_0], .agg #[.int .u8 1, .int .i64 0, .int .i64 0, .string b_1], .agg #[.int .u8 20, .int .i64 5, .int .i64 0, .string (⟨#[]⟩ : ByteArray)], .agg #[.int .u8 8, .int .i64 0, .int .i64 0, .string (⟨#[]⟩ : ByteArray)]]) rfl rfl underlying35 sz34 z34 rfl rfl rfl rfl rfl (mp_cons rfl (mp_cons rfl (mp_cons rfl (mp_cons rfl rfl)))) (.cons (v := .agg #[.int .u8 1, .int .i64 0, .int .i64 0, .string a_0]) (xs := [.int .u8 1, .int .i64 0, .int .i64 0, .string a_0]) (r := [.int .u8 1, .int .i64 0, .int .i64 0, .string b_1, .int .u8 20, .int .i64 5, .int .i64 0, .string (⟨#[]⟩ : ByteArray), .int .u8 8, .int .i64 0, .int .i64 0, .string (⟨#[]⟩ : ByteArray)]) rfl rfl (.cons (v := .agg #[.int .u8 1, .int .i64 0, .int .i64 0, .string b_1]) (xs := [.int .u8 1, .int .i64 0, .int .i64 0, .string b_1]) (r := [.int .u8 20, .int .i64 5, .int .i64 0, .string (⟨#[]⟩ : ByteArray), .int .u8 8, .int .i64 0, .int .i64 0, .string (⟨#[]⟩ : ByteArray)]) rfl rfl (.cons (v := .agg #[.int .u8 20, .int .i64 5, .int .i64 0, .string (⟨#[]⟩ : ByteArray)]) (xs := [.int .u8 20, .int .i64 5, .int .i64 0, .string (⟨#[]⟩ : ByteArray)]) (r := [.int .u8 8, .int .i64 0, .int .i64 0, .string (⟨#[]⟩ : ByteArray)]) rfl rfl (.cons (v := .agg #[.int .u8 8, .int .i64 0, .int .i64 0, .string (⟨#[]⟩ : ByteArray)]) (xs := [.int .u8 8, .int .i64 0, .int .i64 0, .string (⟨#[]⟩ : ByteArray)]) (r := []) rfl rfl .nil)))) hp70 ha71) ?_
  refine lc 76 R6_11_N rfl rfl rfl (opc_of rfl rfl is13 (ma_cons rfl (ma_cons rfl rfl))) H (fun _ _ h => ⟨rfl, h⟩) fun r72 aw73 H => ?_
  refine lj 68 R6_11_N rfl rfl rfl (opv_move rfl rfl rfl) ?_
  refine lj 77 R6_11_N rfl rfl rfl (opv_extract rfl rfl rfl rfl) ?_
  refine lj 78 R6_11_N rfl rfl rfl (opv_extract rfl rfl rfl rfl) ?_
  obtain ⟨p74, aw75, hp76, ha77, H⟩ := H
  refine lj 7 R6_11_N rfl rfl rfl (ov_alloc rfl z29 rfl rfl hp76 ha77) ?_
  obtain ⟨b79, i80, aw78, hp81, hw82, ho83, ha84, H⟩ := H
  refine lk (dt := none) R6_11_N rfl rfl rfl (ov_st rfl rfl rfl rfl rfl rfl sz29 hp81 hw82 ho83 ha84) ?_
  refine lj 8 R6_11_N rfl rfl rfl (opv_assign rfl rfl rfl) ?_
  refine aops_nil ?_
  refine ago_seqE (rfl : C6_40 = .seq C6_41 C6_42) ?_
  refine ago_cut (fun ρ => ρ 0 = .string a_0 ∧ ρ 1 = .string b_1 ∧ ρ 7 = p74 ∧ True) ⟨h0, h1, rfl, trivial⟩ (fun ρ ⟨h0, h1, h7, _⟩ => ?_)
  refine ago_regE (rfl : C6_41 = .region 12 R6_12 false) (l := [0, 1, 2, 3, 4, 5, 6, 7, 8, 9, 10, 11, 12]) rfl ?_
  refine lj 80 R6_12_N rfl rfl rfl (opv_move rfl rfl h0) ?_
  refine lj 81 R6_12_N rfl rfl rfl (ov_bld (r := [.int .u8 1, .int .i64 0, .int .i64 0, .string a_0]) rfl rfl bo34 (mp_cons rfl (mp_cons rfl rfl)) (fillP rfl rfl rfl rfl (fillP rfl rfl rfl rfl (fillN rfl)))) ?_
  refine lj 82 R6_12_N rfl rfl rfl (opv_move rfl rfl h1) ?_
  refine lj 83 R6_12_N rfl rfl rfl (ov_bld (r := [.int .u8 15, .int .i64 0, .int .i64 0, .string b_1]) rfl rfl bo34 (mp_cons rfl (mp_cons rfl rfl)) (fillP rfl rfl rfl rfl (fillP rfl rfl rfl rfl (fillN rfl)))) ?_
  refine lj 84 R6_12_N rfl rfl rfl (ov_bld (r := [.int .u8 8, .int .i64 0, .int .i64 0, .string (⟨#[]⟩ : ByteArray)]) rfl rfl bo34 (mp_cons rfl rfl) (fillP rfl rfl rfl rfl (fillN rfl))) ?_
  obtain ⟨p85, aw86, hp87, ha88, H⟩ := H
  refine lj 85 R6_12_N rfl rfl rfl (ov_bsA (r := [.int .u8 1, .int .i64 0, .int .i64 0, .string a_0, .int .u8 15, .int .i64 0, .int .i64 0, .string b_1, .int .u8 8, .int .i64 0, .int .i64 0, .string (⟨#[]⟩ : ByteArray)]) (vs := [.agg #[.int .u8 1, .int .i64 0, .int .i64 0, .string a_0], .agg #[.int .u8 15, .int .i64 0, .int .i64 0, .string b_1], .agg #[.int .u8 8, .int .i64 0, .int .i64 0, .string (⟨#[]⟩ : ByteArray)]]) rfl rfl underlying35 sz34 z34 rfl rfl rfl rfl rfl (mp_cons rfl (mp_cons rfl (mp_cons rfl rfl))) (.cons (v := .agg #[.int .u8 1, .int .i64 0, .int .i64 0, .string a_0]) (xs := [.int .u8 1, .int .i64 0, .int .i64 0, .string a_0]) (r := [.int .u8 15, .int .i64 0, .int .i64 0, .string b_1, .int .u8 8, .int .i64 0, .int .i64 0, .string (⟨#[]⟩ : ByteArray)]) rfl rfl (.cons (v := .agg #[.int .u8 15, .int .i64 0, .int .i64 0, .string b_1]) (xs := [.int .u8 15, .int .i64 0, .int .i64 0, .string b_1]) (r := [.int .u8 8, .int .i64 0, .int .i64 0, .string (⟨#[]⟩ : ByteArray)]) rfl rfl (.cons (v := .agg #[.int .u8 8, .int .i64 0, .int .i64 0, .string (⟨#[]⟩ : ByteArray)]) (xs := [.int .u8 8, .int .i64 0, .int .i64 0, .string (⟨#[]⟩ : ByteArray)]) (r := []) rfl rfl .nil))) hp87 ha88) ?_
  refine lc 86 R6_12_N rfl rfl rfl (opc_of rfl rfl is13 (ma_cons rfl (ma_cons rfl rfl))) H (fun _ _ h => ⟨rfl, h⟩) fun r89 aw90 H => ?_
  refine lj 79 R6_12_N rfl rfl rfl (opv_move rfl rfl rfl) ?_
  refine lj 87 R6_12_N rfl rfl rfl (opv_extract rfl rfl rfl rfl) ?_
  refine lj 88 R6_12_N rfl rfl rfl (opv_extract rfl rfl rfl rfl) ?_
  obtain ⟨p91, aw92, hp93, ha94, H⟩ := H
  refine lj 9 R6_12_N rfl rfl rfl (ov_alloc rfl z29 rfl rfl hp93 ha94) ?_
  obtain ⟨b96, i97, aw95, hp98, hw99, ho100, ha101, H⟩ := H
  refine lk (dt := none) R6_12_N rfl rfl rfl (ov_st rfl rfl rfl rfl rfl rfl sz29 hp98 hw99 ho100 ha101) ?_
  refine lj 10 R6_12_N rfl rfl rfl (opv_assign rfl rfl rfl) ?_
  refine aops_nil ?_
  refine ago_seqE (rfl : C6_42 = .seq C6_43 C6_44) ?_
  refine ago_cut (fun ρ => ρ 0 = .string a_0 ∧ ρ 1 = .string b_1 ∧ ρ 7 = p74 ∧ ρ 9 = p91 ∧ True) ⟨h0, h1, h7, rfl, trivial⟩ (fun ρ ⟨h0, h1, h7, h9, _⟩ => ?_)
  refine ago_regE (rfl : C6_43 = .region 13 R6_13 false) (l := [0, 1, 2, 3, 4, 5, 6, 7, 8, 9, 10, 11, 12]) rfl ?_
  refine lj 90 R6_13_N rfl rfl rfl (ov_bld (r := [.int .u8 5, .int .i64 6, .int .i64 0, .string (⟨#[]⟩ : ByteArray)]) rfl rfl bo34 (mp_cons rfl (mp_cons rfl rfl)) (fillP rfl rfl rfl rfl (fillP rfl rfl rfl rfl (fillN rfl)))) ?_
  refine lj 91 R6_13_N rfl rfl rfl (opv_move rfl rfl h0) ?_
  refine lj 92 R6_13_N rfl rfl rfl (ov_bld (r := [.int .u8 1, .int .i64 0, .int .i64 0, .string a_0]) rfl rfl bo34 (mp_cons rfl (mp_cons rfl rfl)) (fillP rfl rfl rfl rfl (fillP rfl rfl rfl rfl (fillN rfl)))) ?_
  refine lj 93 R6_13_N rfl rfl rfl (ov_bld (r := [.int .u8 7, .int .i64 0, .int .i64 0, .string (⟨#[]⟩ : ByteArray)]) rfl rfl bo34 (mp_cons rfl rfl) (fillP rfl rfl rfl rfl (fillN rfl))) ?_
  refine lj 94 R6_13_N rfl rfl rfl (ov_bld (r := [.int .u8 8, .int .i64 0, .int .i64 0, .string (⟨#[]⟩ : ByteArray)]) rfl rfl bo34 (mp_cons rfl rfl) (fillP rfl rfl rfl rfl (fillN rfl))) ?_
  obtain ⟨p102, aw103, hp104, ha105, H⟩ := H
  refine lj 95 R6_13_N rfl rfl rfl (ov_bsA (r := [.int .u8 5, .int .i64 6, .int .i64 0, .string (⟨#[]⟩ : ByteArray), .int .u8 1, .int .i64 0, .int .i64 0, .string a_0, .int .u8 7, .int .i64 0, .int .i64 0, .string (⟨#[]⟩ : ByteArray), .int .u8 8, .int .i64 0, .int .i64 0, .string (⟨#[]⟩ : ByteArray)]) (vs := [.agg #[.int .u8 5, .int .i64 6, .int .i64 0, .string (⟨#[]⟩ : ByteArray)], .agg #[.int .u8 1, .int .i64 0, .int .i64 0, .string a_0], .agg #[.int .u8 7, .int .i64 0, .int .i64 0, .string (⟨#[]⟩ : ByteArray)], .agg #[.int .u8 8, .int .i64 0, .int .i64 0, .string (⟨#[]⟩ : ByteArray)]]) rfl rfl underlying35 sz34 z34 rfl rfl rfl rfl rfl (mp_cons rfl (mp_cons rfl (mp_cons rfl (mp_cons rfl rfl)))) (.cons (v := .agg #[.int .u8 5, .int .i64 6, .int .i64 0, .string (⟨#[]⟩ : ByteArray)]) (xs := [.int .u8 5, .int .i64 6, .int .i64 0, .string (⟨#[]⟩ : ByteArray)]) (r := [.int .u8 1, .int .i64 0, .int .i64 0, .string a_0, .int .u8 7, .int .i64 0, .int .i64 0, .string (⟨#[]⟩ : ByteArray), .int .u8 8, .int .i64 0, .int .i64 0, .string (⟨#[]⟩ : ByteArray)]) rfl rfl (.cons (v := .agg #[.int .u8 1, .int .i64 0, .int .i64 0, .string a_0]) (xs := [.int .u8 1, .int .i64 0, .int .i64 0, .string a_0]) (r := [.int .u8 7, .int .i64 0, .int .i64 0, .string (⟨#[]⟩ : ByteArray), .int .u8 8, .int .i64 0, .int .i64 0, .string (⟨#[]⟩ : ByteArray)]) rfl rfl (.cons (v := .agg #[.int .u8 7, .int .i64 0, .int .i64 0, .string (⟨#[]⟩ : ByteArray)]) (xs := [.int .u8 7, .int .i64 0, .int .i64 0, .string (⟨#[]⟩ : ByteArray)]) (r := [.int .u8 8, .int .i64 0, .int .i64 0, .string (⟨#[]⟩ : ByteArray)]) rfl rfl (.cons (v := .agg #[.int .u8 8, .int .i64 0, .int .i64 0, .string (⟨#[]⟩ : ByteArray)]) (xs := [.int .u8 8, .int .i64 0, .int .i64 0, .string (⟨#[]⟩ : ByteArray)]) (r := []) rfl rfl .nil)))) hp104 ha105) ?_
  refine lc 96 R6_13_N rfl rfl rfl (opc_of rfl rfl is13 (ma_cons rfl (ma_cons rfl rfl))) H (fun _ _ h => ⟨rfl, h⟩) fun r106 aw107 H => ?_
  refine lj 89 R6_13_N rfl rfl rfl (opv_move rfl rfl rfl) ?_
  refine lj 97 R6_13_N rfl rfl rfl (opv_extract rfl rfl rfl rfl) ?_
  refine lj 98 R6_13_N rfl rfl rfl (opv_extract rfl rfl rfl rfl) ?_
  obtain ⟨p108, aw109, hp110, ha111, H⟩ := H
  refine lj 11 R6_13_N rfl rfl rfl (ov_alloc rfl z29 rfl rfl hp110 ha111) ?_
  obtain ⟨b113, i114, aw112, hp115, hw116, ho117, ha118, H⟩ := H
  refine lk (dt := none) R6_13_N rfl rfl rfl (ov_st rfl rfl rfl rfl rfl rfl sz29 hp115 hw116 ho117 ha118) ?_
  refine lj 12 R6_13_N rfl rfl rfl (opv_assign rfl rfl rfl) ?_
  refine aops_nil ?_
  refine ago_seqE (rfl : C6_44 = .seq C6_45 C6_46) ?_
  refine ago_cut (fun ρ => ρ 0 = .string a_0 ∧ ρ 1 = .string b_1 ∧ ρ 7 = p74 ∧ ρ 9 = p91 ∧ ρ 11 = p108 ∧ True) ⟨h0, h1, h7, h9, rfl, trivial⟩ (fun ρ ⟨h0, h1, h7, h9, h11, _⟩ => ?_)
  refine ago_regE (rfl : C6_45 = .region 14 R6_14 false) (l := [0, 1]) rfl ?_
  refine lc 99 R6_14_N rfl rfl rfl (opc_of rfl rfl is14 (ma_cons rfl rfl)) H (fun _ _ h => ⟨rfl, h⟩) fun r119 aw120 H => ?_
  refine lj 13 R6_14_N rfl rfl rfl (opv_assign rfl rfl rfl) ?_
  refine aops_nil ?_
  refine ago_seqE (rfl : C6_46 = .seq C6_47 C6_52) ?_
  refine ago_seqE (rfl : C6_47 = .seq C6_48 C6_49) ?_
  refine ago_regE (rfl : C6_48 = .region 15 R6_15 false) (l := [0, 1, 2]) rfl ?_
  refine lj 100 R6_15_N rfl rfl rfl (opv_move rfl rfl h0) ?_
  refine lj 101 R6_15_N rfl rfl rfl (opv_move rfl rfl h1) ?_
  refine lj 102 R6_15_N rfl rfl rfl (opv_eqS rfl rfl rfl rfl rfl) ?_
  refine aops_nil ?_
  refine ago_condE  (rfl : C6_49 = .cond (.tmp 102) C6_50 C6_51) rfl rfl (fun hb121 => ?_) (fun hb121 => ?_)
  · replace H := cnd_t H hb121
    refine ago_regE (rfl : C6_50 = .region 16 R6_16 false) (l := [0, 1]) rfl ?_
    refine lc 103 R6_16_N rfl rfl rfl (opc_of rfl rfl is14 (ma_cons rfl rfl)) H (fun _ _ h => ⟨rfl, h⟩) fun r122 aw123 H => ?_
    refine lj 13 R6_16_N rfl rfl rfl (opv_assign rfl rfl rfl) ?_
    refine aops_nil ?_
    exact S6_3_ok Q E  _ a_0 p74 p91 p108 r122 aw123 h0 h7 h9 h11 rfl H
  replace H := cnd_f H hb121
  refine ago_skipE (rfl : C6_51 = .skip) ?_
  exact S6_3_ok Q E  _ a_0 p74 p91 p108 r119 aw120 h0 h7 h9 h11 rfl H
theorem S6_1_ok (Q : Bool → AW → Prop) (E : List PanicEntry → AW → Prop)  (ρ : Env) (a_0 : ByteArray) (b_1 : ByteArray) (t_25 : Bool) (aw : AW) (h0 : ρ 0 = .string a_0) (h1 : ρ 1 = .string b_1) (h25 : ρ 25 = .bool t_25) (H : S6_1 Q E  a_0 b_1 t_25 aw) :
    AGo prog 137 [.code C6_5, .code C6_10] ρ [] aw (RR prog f6 137 sh6 Q E) := by
  unfold S6_1 at H
  refine ago_condE  (rfl : C6_5 = .cond (.tmp 25) C6_6 C6_9) rfl h25 (fun hb124 => ?_) (fun hb124 => ?_)
  · replace H := cnd_t H hb124
    refine ago_seqE (rfl : C6_6 = .seq C6_7 C6_8) ?_
    refine ago_regE (rfl : C6_7 = .region 2 R6_2 false) (l := [0, 1]) rfl ?_
    refine lc 26 R6_2_N rfl rfl rfl (opc_of rfl rfl is11 rfl) H (fun _ _ h => ⟨rfl, h⟩) fun r125 aw126 H => ?_
    refine lj 4 R6_2_N rfl rfl rfl (opv_assign rfl rfl rfl) ?_
    refine aops_nil ?_
    exact ago_retE (rfl : C6_8 = .ret) (r := r125) (ares_1 rfl (oneT rfl)) rfl H
  replace H := cnd_f H hb124
  refine ago_skipE (rfl : C6_9 = .skip) ?_
  refine ago_seqE (rfl : C6_10 = .seq C6_11 C6_12) ?_
  refine ago_regE (rfl : C6_11 = .region 3 R6_3 false) (l := [0, 1, 2, 3, 4, 5, 6, 7, 8, 9, 10, 11, 12, 13]) rfl ?_
  refine lj 28 R6_3_N rfl rfl rfl (opv_move rfl rfl h0) ?_
  refine lj 29 R6_3_N rfl rfl rfl (ov_bld (r := [.int .u8 1, .int .i64 0, .int .i64 0, .string a_0]) rfl rfl bo34 (mp_cons rfl (mp_cons rfl rfl)) (fillP rfl rfl rfl rfl (fillP rfl rfl rfl rfl (fillN rfl)))) ?_
  refine lj 30 R6_3_N rfl rfl rfl (opv_move rfl rfl h1) ?_
  refine lj 31 R6_3_N rfl rfl rfl (ov_bld (r := [.int .u8 1, .int .i64 0, .int .i64 0, .string b_1]) rfl rfl bo34 (mp_cons rfl (mp_cons rfl rfl)) (fillP rfl rfl rfl rfl (fillP rfl rfl rfl rfl (fillN rfl)))) ?_
  refine lj 32 R6_3_N rfl rfl rfl (ov_bld (r := [.int .u8 20, .int .i64 9, .int .i64 0, .string (⟨#[]⟩ : ByteArray)]) rfl rfl bo34 (mp_cons rfl (mp_cons rfl rfl)) (fillP rfl rfl rfl rfl (fillP rfl rfl rfl rfl (fillN rfl)))) ?_
  refine lj 33 R6_3_N rfl rfl rfl (ov_bld (r := [.int .u8 8, .int .i64 0, .int .i64 0, .string (⟨#[]⟩ : ByteArray)]) rfl rfl bo34 (mp_cons rfl rfl) (fillP rfl rfl rfl rfl (fillN rfl))) ?_
  obtain ⟨p127, aw128, hp129, ha130, H⟩ := H
  refine lj 34 R6_3_N rfl rfl rfl (ov_bsA (r := [.int .u8 1, .int .i64 0, .int .i64 0, .string a_0, .int .u8 1, .int .i64 0, .int .i64 0, .string b_1, .int .u8 20, .int .i64 9, .int .i64 0, .string (⟨#[]⟩ : ByteArray), .int .u8 8, .int .i64 0, .int .i64 0, .string (⟨#[]⟩ : ByteArray)]) (vs := [.agg #[.int .u8 1, .int .i64 0, .int .i64 0, .string a_0], .agg #[.int .u8 1, .int .i64 0, .int .i64 0, .string b_1], .agg #[.int .u8 20, .int .i64 9, .int .i64 0, .string (⟨#[]⟩ : ByteArray)], .agg #[.int .u8 8, .int .i64 0, .int .i64 0, .string (⟨#[]⟩ : ByteArray)]]) rfl rfl underlying35 sz34 z34 rfl rfl rfl rfl rfl (mp_cons rfl (mp_cons rfl (mp_cons rfl (mp_cons rfl rfl)))) (.cons (v := .agg #[.int .u8 1, .int .i64 0, .int .i64 0, .string a_0]) (xs := [.int .u8 1, .int .i64 0, .int .i64 0, .string a_0]) (r := [.int .u8 1, .int .i64 0, .int .i64 0, .string b_1, .int .u8 20, .int .i64 9, .int .i64 0, .string (⟨#[]⟩ : ByteArray), .int .u8 8, .int .i64 0, .int .i64 0, .string (⟨#[]⟩ : ByteArray)]) rfl rfl (.cons (v := .agg #[.int .u8 1, .int .i64 0, .int .i64 0, .string b_1]) (xs := [.int .u8 1, .int .i64 0, .int .i64 0, .string b_1]) (r := [.int .u8 20, .int .i64 9, .int .i64 0, .string (⟨#[]⟩ : ByteArray), .int .u8 8, .int .i64 0, .int .i64 0, .string (⟨#[]⟩ : ByteArray)]) rfl rfl (.cons (v := .agg #[.int .u8 20, .int .i64 9, .int .i64 0, .string (⟨#[]⟩ : ByteArray)]) (xs := [.int .u8 20, .int .i64 9, .int .i64 0, .string (⟨#[]⟩ : ByteArray)]) (r := [.int .u8 8, .int .i64 0, .int .i64 0, .string (⟨#[]⟩ : ByteArray)]) rfl rfl (.cons (v := .agg #[.int .u8 8, .int .i64 0, .int .i64 0, .string (⟨#[]⟩ : ByteArray)]) (xs := [.int .u8 8, .int .i64 0, .int .i64 0, .string (⟨#[]⟩ : ByteArray)]) (r := []) rfl rfl .nil)))) hp129 ha130) ?_
  refine lc 35 R6_3_N rfl rfl rfl (opc_of rfl rfl is13 (ma_cons rfl (ma_cons rfl rfl))) H (fun _ _ h => ⟨rfl, h⟩) fun r131 aw132 H => ?_
  refine lj 27 R6_3_N rfl rfl rfl (opv_move rfl rfl rfl) ?_
  refine lj 36 R6_3_N rfl rfl rfl (opv_extract rfl rfl rfl rfl) ?_
  refine lj 37 R6_3_N rfl rfl rfl (opv_extract rfl rfl rfl rfl) ?_
  obtain ⟨p133, aw134, hp135, ha136, H⟩ := H
  refine lj 5 R6_3_N rfl rfl rfl (ov_alloc rfl z29 rfl rfl hp135 ha136) ?_
  obtain ⟨b138, i139, aw137, hp140, hw141, ho142, ha143, H⟩ := H
  refine lk (dt := none) R6_3_N rfl rfl rfl (ov_st rfl rfl rfl rfl rfl rfl sz29 hp140 hw141 ho142 ha143) ?_
  refine lj 6 R6_3_N rfl rfl rfl (opv_assign rfl rfl rfl) ?_
  refine aops_nil ?_
  refine ago_seqE (rfl : C6_12 = .seq C6_13 C6_20) ?_
  refine ago_seqE (rfl : C6_13 = .seq C6_14 C6_15) ?_
  refine ago_cut (fun ρ => ρ 0 = .string a_0 ∧ ρ 1 = .string b_1 ∧ ρ 5 = p133 ∧ ρ 6 = r131.2.2.2.2.2.2 ∧ True) ⟨h0, h1, rfl, rfl, trivial⟩ (fun ρ ⟨h0, h1, h5, h6, _⟩ => ?_)
  refine ago_regE (rfl : C6_14 = .region 4 R6_4 false) (l := [0, 1]) rfl ?_
  refine lj 38 R6_4_N rfl rfl rfl (opv_move rfl rfl h6) ?_
  obtain ⟨q144, hf145, hq146, H⟩ := H
  refine lj 39 R6_4_N rfl rfl rfl (ov_eqNil rfl rfl underlying30 rfl hf145 hq146) ?_
  refine aops_nil ?_
  refine ago_condE  (rfl : C6_15 = .cond (.tmp 39) C6_16 C6_19) rfl rfl (fun hb147 => ?_) (fun hb147 => ?_)
  · replace H := cnd_t H hb147
    refine ago_seqE (rfl : C6_16 = .seq C6_17 C6_18) ?_
    refine ago_regE (rfl : C6_17 = .region 5 R6_5 false) (l := [0]) rfl ?_
    refine lj 4 R6_5_N rfl rfl rfl (opv_assign rfl rfl rfl) ?_
    refine aops_nil ?_
    exact ago_retE (rfl : C6_18 = .ret) (r := false) (ares_1 rfl (oneT rfl)) rfl H
  replace H := cnd_f H hb147
  refine ago_skipE (rfl : C6_19 = .skip) ?_
  refine ago_seqE (rfl : C6_20 = .seq C6_21 C6_38) ?_
  refine ago_seqE (rfl : C6_21 = .seq C6_22 C6_23) ?_
  refine ago_regE (rfl : C6_22 = .region 6 R6_6 false) (l := [0, 1, 2, 3, 4, 5]) rfl ?_
  refine lj 40 R6_6_N rfl rfl rfl (opv_move rfl rfl h0) ?_
  refine lj 41 R6_6_N rfl rfl rfl (opv_lenS rfl rfl rfl underlying9 rfl) ?_
  refine lj 42 R6_6_N rfl rfl rfl (opv_move rfl rfl h1) ?_
  refine lj 43 R6_6_N rfl rfl rfl (opv_lenS rfl rfl rfl underlying9 rfl) ?_
  refine lj 44 R6_6_N rfl rfl rfl (opv_add rfl rfl rfl rfl rfl) ?_
  refine lj 45 R6_6_N rfl rfl rfl (opv_gt rfl rfl rfl rfl rfl) ?_
  refine aops_nil ?_
  refine ago_condE  (rfl : C6_23 = .cond (.tmp 45) C6_24 C6_31) rfl rfl (fun hb148 => ?_) (fun hb148 => ?_)
  · replace H := cnd_t H hb148
    refine ago_seqE (rfl : C6_24 = .seq C6_25 C6_26) ?_
    refine ago_regE (rfl : C6_25 = .region 7 R6_7 false) (l := [0, 1, 2, 3, 4, 5, 6, 7]) rfl ?_
    obtain ⟨b150, i151, p149, hp152, hv153, H⟩ := H
    refine lj 46 R6_7_N rfl rfl rfl (ov_fldA rfl rfl underlying29 rfl sz24 (by decide) h5 hp152 rfl hv153) ?_
    obtain ⟨b154, i155, x157, hp156, hg158, H⟩ := H
    refine lj 47 R6_7_N rfl rfl rfl (ov_ldI rfl underlying24 rfl rfl hp156 hg158) ?_
    refine lj 48 R6_7_N rfl rfl rfl (opv_neI rfl rfl rfl rfl rfl) ?_
    refine lj 49 R6_7_N rfl rfl rfl (opv_move rfl rfl rfl) ?_
    rcases Bool.eq_false_or_eq_true (!decide (x157 = 9)) with hb159 | hb159
    · replace H := cnd_t H hb159
      refine ls 50 R6_7_N rfl rfl ⟨_, rfl, .inl ⟨_, rfl, gq hb159 rfl⟩⟩ ?_
      refine ls 51 R6_7_N rfl rfl ⟨_, rfl, .inl ⟨_, rfl, gq hb159 rfl⟩⟩ ?_
      refine ls 52 R6_7_N rfl rfl ⟨_, rfl, .inl ⟨_, rfl, gq hb159 rfl⟩⟩ ?_
      refine lj 53 R6_7_N rfl rfl rfl (ov_pickT rfl rfl rfl rfl rfl hb159 rfl) ?_
      refine aops_nil ?_
      refine ago_condE  (rfl : C6_26 = .cond (.tmp 53) C6_27 C6_30) rfl rfl (fun h => ?_) (fun h => tf h)
      refine ago_seqE (rfl : C6_27 = .seq C6_28 C6_29) ?_
      refine ago_regE (rfl : C6_28 = .region 8 R6_8 false) (l := [0]) rfl ?_
      refine lj 4 R6_8_N rfl rfl rfl (opv_assign rfl rfl rfl) ?_
      refine aops_nil ?_
      exact ago_retE (rfl : C6_29 = .ret) (r := false) (ares_1 rfl (oneT rfl)) rfl H
    · replace H := cnd_f H hb159
      obtain ⟨b162, i163, p161, hp164, hv165, H⟩ := H
      refine lj 50 R6_7_N rfl rfl ⟨_, rfl, .inl ⟨_, rfl, gq hb159 rfl⟩⟩ (ov_fldA rfl rfl underlying29 rfl sz9 (by decide) h5 hp164 rfl hv165) ?_
      obtain ⟨b166, i167, x169, hp168, hg170, H⟩ := H
      refine lj 51 R6_7_N rfl rfl ⟨_, rfl, .inl ⟨_, rfl, gq hb159 rfl⟩⟩ (ov_ldS rfl underlying9 rfl rfl hp168 hg170) ?_
      refine lj 52 R6_7_N rfl rfl ⟨_, rfl, .inl ⟨_, rfl, gq hb159 rfl⟩⟩ (opv_neS rfl rfl rfl rfl rfl) ?_
      refine lj 53 R6_7_N rfl rfl rfl (ov_pickF rfl rfl rfl rfl rfl hb159 rfl) ?_
      refine aops_nil ?_
      refine ago_condE  (rfl : C6_26 = .cond (.tmp 53) C6_27 C6_30) rfl rfl (fun hb171 => ?_) (fun hb171 => ?_)
      · replace H := cnd_t H hb171
        refine ago_seqE (rfl : C6_27 = .seq C6_28 C6_29) ?_
        refine ago_regE (rfl : C6_28 = .region 8 R6_8 false) (l := [0]) rfl ?_
        refine lj 4 R6_8_N rfl rfl rfl (opv_assign rfl rfl rfl) ?_
        refine aops_nil ?_
        exact ago_retE (rfl : C6_29 = .ret) (r := false) (ares_1 rfl (oneT rfl)) rfl H
      replace H := cnd_f H hb171
      refine ago_skipE (rfl : C6_30 = .skip) ?_
      exact S6_2_ok Q E  _ a_0 b_1 aw137 h0 h1 H
  replace H := cnd_f H hb148
  refine ago_seqE (rfl : C6_31 = .seq C6_32 C6_33) ?_
  obtain ⟨b173, i174, p172, hp175, hv176, H⟩ := H
  obtain ⟨b177, i178, x180, hp179, hg181, H⟩ := H
  rcases Bool.eq_false_or_eq_true (!decide (x180 = 0)) with hb182 | hb182
  · replace H := cnd_t H hb182
    refine ago_drawH (p := [0, 1, 2, 3, 4, 6, 7, 9, 10, 11]) (tl := [(5, [6, 7, 9, 10, 11], []), (8, [9, 10, 11], [12, 13])]) (hv := [(0, p172), (1, Value.int .i64 x180), (2, Value.bool (!decide (x180 = 0))), (3, Value.bool (!decide (x180 = 0))), (4, undef), (6, undef), (7, undef), (9, undef), (10, undef), (11, undef)]) (rfl : C6_32 = .region 9 R6_9 true) mixed R6_9_N R6_9_O rfl (pv_cons rfl (pv_cons rfl (pv_cons rfl (pv_cons rfl (pv_cons rfl (pv_cons rfl (pv_cons rfl (pv_cons rfl (pv_cons rfl (pv_cons rfl (pv_nil _)))))))))))
      (fc 54 p172 (hd_v rfl fun ρ hρ => ⟨rfl, ov_fldA rfl rfl underlying29 rfl sz24 (by decide) ((hρ 5 (lmem rfl)).trans h5) hp175 rfl hv176⟩) rfl rfl
      (fc 55 (.int .i64 x180) (hd_v rfl fun ρ hρ => ⟨rfl, ov_ldI rfl underlying24 rfl ((hρ 54 (lmem rfl)).trans rfl) hp179 hg181⟩) rfl rfl
      (fc 56 (.bool (!decide (x180 = 0))) (hd_v rfl fun ρ hρ => ⟨rfl, opv_neI rfl rfl rfl ((hρ 55 (lmem rfl)).trans rfl) rfl⟩) rfl rfl
      (fc 57 (.bool (!decide (x180 = 0))) (hd_v rfl fun ρ hρ => ⟨rfl, opv_move rfl rfl ((hρ 56 (lmem rfl)).trans rfl)⟩) rfl rfl
      (fc 58 undef (hd_s rfl (fun ρ hρ => ⟨_, rfl, .inl ⟨_, ((hρ 57 (lmem rfl)).trans rfl), gq hb182 rfl⟩⟩) rfl) rfl rfl
      (fc 60 undef (hd_s rfl (fun ρ hρ => ⟨_, rfl, .inl ⟨_, ((hρ 57 (lmem rfl)).trans rfl), gq hb182 rfl⟩⟩) rfl) rfl rfl
      (fc 61 undef (hd_s rfl (fun ρ hρ => ⟨_, rfl, .inl ⟨_, ((hρ 57 (lmem rfl)).trans rfl), gq hb182 rfl⟩⟩) rfl) rfl rfl
      (fc 63 undef (hd_s rfl (fun ρ hρ => ⟨_, rfl, .inl ⟨_, ((hρ 57 (lmem rfl)).trans rfl), gq hb182 rfl⟩⟩) rfl) rfl rfl
      (fc 64 undef (hd_s rfl (fun ρ hρ => ⟨_, rfl, .inl ⟨_, ((hρ 57 (lmem rfl)).trans rfl), gq hb182 rfl⟩⟩) rfl) rfl rfl
      (fc 65 undef (hd_s rfl (fun ρ hρ => ⟨_, rfl, .inl ⟨_, ((hρ 57 (lmem rfl)).trans rfl), gq hb182 rfl⟩⟩) rfl) rfl rfl
      ffn)))))))))) ?_
    refine lt_skip (dt := some 59) rfl rfl (fun ρ hρ => ⟨_, rfl, .inl ⟨_, ((hρ 57 (lmem rfl)).trans rfl), gq hb182 rfl⟩⟩) ?_
    refine lt_next (l := [6, 7, 9, 10, 11]) (hv := []) rfl rfl (pv_nil _)
      (fc 60 undef (hd_s rfl (fun ρ hρ => ⟨_, rfl, .inl ⟨_, ((hρ 57 (lmem rfl)).trans rfl), gq hb182 rfl⟩⟩) rfl) rfl rfl
      (fc 61 undef (hd_s rfl (fun ρ hρ => ⟨_, rfl, .inl ⟨_, ((hρ 57 (lmem rfl)).trans rfl), gq hb182 rfl⟩⟩) rfl) rfl rfl
      (fc 63 undef (hd_s rfl (fun ρ hρ => ⟨_, rfl, .inl ⟨_, ((hρ 57 (lmem rfl)).trans rfl), gq hb182 rfl⟩⟩) rfl) rfl rfl
      (fc 64 undef (hd_s rfl (fun ρ hρ => ⟨_, rfl, .inl ⟨_, ((hρ 57 (lmem rfl)).trans rfl), gq hb182 rfl⟩⟩) rfl) rfl rfl
      (fc 65 undef (hd_s rfl (fun ρ hρ => ⟨_, rfl, .inl ⟨_, ((hρ 57 (lmem rfl)).trans rfl), gq hb182 rfl⟩⟩) rfl) rfl rfl
      ffn))))) ?_
    refine lt_skip (dt := some 62) rfl rfl (fun ρ hρ => ⟨_, rfl, .inl ⟨_, ((hρ 57 (lmem rfl)).trans rfl), gq hb182 rfl⟩⟩) ?_
    refine lt_next (l := [9, 10, 11, 12, 13]) (hv := [(12, undef), (13, Value.bool true)]) rfl rfl (pv_cons rfl (pv_cons rfl (pv_nil _)))
      (fc 63 undef (hd_s rfl (fun ρ hρ => ⟨_, rfl, .inl ⟨_, ((hρ 57 (lmem rfl)).trans rfl), gq hb182 rfl⟩⟩) rfl) rfl rfl
      (fc 64 undef (hd_s rfl (fun ρ hρ => ⟨_, rfl, .inl ⟨_, ((hρ 57 (lmem rfl)).trans rfl), gq hb182 rfl⟩⟩) rfl) rfl rfl
      (fc 65 undef (hd_s rfl (fun ρ hρ => ⟨_, rfl, .inl ⟨_, ((hρ 57 (lmem rfl)).trans rfl), gq hb182 rfl⟩⟩) rfl) rfl rfl
      (fc 66 undef (hd_s rfl (fun ρ hρ => ⟨_, rfl, .inl ⟨_, ((hρ 57 (lmem rfl)).trans rfl), gq hb182 rfl⟩⟩) rfl) rfl rfl
      (fc 67 (.bool true) (hd_v rfl fun ρ hρ => ⟨rfl, ov_pickT rfl rfl rfl rfl ((hρ 57 (lmem rfl)).trans rfl) hb182 rfl⟩) rfl rfl
      ffn))))) ?_
    refine lt_end ?_
    refine ago_condE  (rfl : C6_33 = .cond (.tmp 67) C6_34 C6_37) rfl rfl (fun h => ?_) (fun h => tf h)
    refine ago_seqE (rfl : C6_34 = .seq C6_35 C6_36) ?_
    refine ago_regE (rfl : C6_35 = .region 10 R6_10 false) (l := [0]) rfl ?_
    refine lj 4 R6_10_N rfl rfl rfl (opv_assign rfl rfl rfl) ?_
    refine aops_nil ?_
    exact ago_retE (rfl : C6_36 = .ret) (r := false) (ares_1 rfl (oneT rfl)) rfl H
  · replace H := cnd_f H hb182
    obtain ⟨b185, i186, p184, hp187, hv188, H⟩ := H
    obtain ⟨b189, i190, x192, hp191, hg193, H⟩ := H
    obtain ⟨hz194, H⟩ := H
    refine ago_drawH (p := [0, 1, 2, 3, 4, 6, 7, 9, 10, 11]) (tl := [(5, [6, 7, 9, 10, 11], []), (8, [9, 10, 11], [12, 13])]) (hv := [(0, p172), (1, Value.int .i64 x180), (2, Value.bool (!decide (x180 = 0))), (3, Value.bool (!decide (x180 = 0))), (4, r131.2.2.2.2.2.2), (6, p184), (7, Value.int .u64 x192), (9, Value.string a_0), (10, Value.string b_1), (11, Value.string (a_0 ++ b_1))]) (rfl : C6_32 = .region 9 R6_9 true) mixed R6_9_N R6_9_O rfl (pv_cons rfl (pv_cons rfl (pv_cons rfl (pv_cons rfl (pv_cons rfl (pv_cons rfl (pv_cons rfl (pv_cons rfl (pv_cons rfl (pv_cons rfl (pv_nil _)))))))))))
      (fc 54 p172 (hd_v rfl fun ρ hρ => ⟨rfl, ov_fldA rfl rfl underlying29 rfl sz24 (by decide) ((hρ 5 (lmem rfl)).trans h5) hp175 rfl hv176⟩) rfl rfl
      (fc 55 (.int .i64 x180) (hd_v rfl fun ρ hρ => ⟨rfl, ov_ldI rfl underlying24 rfl ((hρ 54 (lmem rfl)).trans rfl) hp179 hg181⟩) rfl rfl
      (fc 56 (.bool (!decide (x180 = 0))) (hd_v rfl fun ρ hρ => ⟨rfl, opv_neI rfl rfl rfl ((hρ 55 (lmem rfl)).trans rfl) rfl⟩) rfl rfl
      (fc 57 (.bool (!decide (x180 = 0))) (hd_v rfl fun ρ hρ => ⟨rfl, opv_move rfl rfl ((hρ 56 (lmem rfl)).trans rfl)⟩) rfl rfl
      (fc 58 r131.2.2.2.2.2.2 (hd_v rfl fun ρ hρ => ⟨⟨_, rfl, .inl ⟨_, ((hρ 57 (lmem rfl)).trans rfl), gq hb182 rfl⟩⟩, opv_move rfl rfl ((hρ 6 (lmem rfl)).trans h6)⟩) rfl rfl
      (fc 60 p184 (hd_v rfl fun ρ hρ => ⟨⟨_, rfl, .inl ⟨_, ((hρ 57 (lmem rfl)).trans rfl), gq hb182 rfl⟩⟩, ov_fldA rfl rfl underlying29 rfl sz26 (by decide) ((hρ 5 (lmem rfl)).trans h5) hp187 rfl hv188⟩) rfl rfl
      (fc 61 (.int .u64 x192) (hd_v rfl fun ρ hρ => ⟨⟨_, rfl, .inl ⟨_, ((hρ 57 (lmem rfl)).trans rfl), gq hb182 rfl⟩⟩, ov_ldI rfl underlying26 rfl ((hρ 60 (lmem rfl)).trans rfl) hp191 hg193⟩) rfl rfl
      (fc 63 (.string a_0) (hd_v rfl fun ρ hρ => ⟨⟨_, rfl, .inl ⟨_, ((hρ 57 (lmem rfl)).trans rfl), gq hb182 rfl⟩⟩, opv_move rfl rfl ((hρ 0 (lmem rfl)).trans h0)⟩) rfl rfl
      (fc 64 (.string b_1) (hd_v rfl fun ρ hρ => ⟨⟨_, rfl, .inl ⟨_, ((hρ 57 (lmem rfl)).trans rfl), gq hb182 rfl⟩⟩, opv_move rfl rfl ((hρ 1 (lmem rfl)).trans h1)⟩) rfl rfl
      (fc 65 (.string (a_0 ++ b_1)) (hd_v rfl fun ρ hρ => ⟨⟨_, rfl, .inl ⟨_, ((hρ 57 (lmem rfl)).trans rfl), gq hb182 rfl⟩⟩, opv_cat rfl rfl rfl ((hρ 63 (lmem rfl)).trans rfl) ((hρ 64 (lmem rfl)).trans rfl) hz194⟩) rfl rfl
      ffn)))))))))) ?_
    refine lt_call (dt := some 59) rfl rfl (fun ρ hρ => ⟨⟨_, rfl, .inl ⟨_, ((hρ 57 (lmem rfl)).trans rfl), gq hb182 rfl⟩⟩, opc_of rfl rfl is18 (ma_cons ((hρ 58 (lmem rfl)).trans rfl) rfl)⟩) H (fun _ _ h _ => ⟨rfl, h⟩) fun r195 aw196 H => ?_
    obtain ⟨hg193, H⟩ := H
    replace hg193 := hg193 _ _ hp191
    refine lt_next (l := [6, 7, 9, 10, 11]) (hv := []) rfl rfl (pv_nil _)
      (fc 60 p184 (hd_v rfl fun ρ hρ => ⟨⟨_, rfl, .inl ⟨_, ((hρ 57 (lmem rfl)).trans rfl), gq hb182 rfl⟩⟩, ov_fldA rfl rfl underlying29 rfl sz26 (by decide) ((hρ 5 (lmem rfl)).trans h5) hp187 rfl hv188⟩) rfl rfl
      (fc 61 (.int .u64 x192) (hd_v rfl fun ρ hρ => ⟨⟨_, rfl, .inl ⟨_, ((hρ 57 (lmem rfl)).trans rfl), gq hb182 rfl⟩⟩, ov_ldI rfl underlying26 rfl ((hρ 60 (lmem rfl)).trans rfl) hp191 hg193⟩) rfl rfl
      (fc 63 (.string a_0) (hd_v rfl fun ρ hρ => ⟨⟨_, rfl, .inl ⟨_, ((hρ 57 (lmem rfl)).trans rfl), gq hb182 rfl⟩⟩, opv_move rfl rfl ((hρ 0 (lmem rfl)).trans h0)⟩) rfl rfl
      (fc 64 (.string b_1) (hd_v rfl fun ρ hρ => ⟨⟨_, rfl, .inl ⟨_, ((hρ 57 (lmem rfl)).trans rfl), gq hb182 rfl⟩⟩, opv_move rfl rfl ((hρ 1 (lmem rfl)).trans h1)⟩) rfl rfl
      (fc 65 (.string (a_0 ++ b_1)) (hd_v rfl fun ρ hρ => ⟨⟨_, rfl, .inl ⟨_, ((hρ 57 (lmem rfl)).trans rfl), gq hb182 rfl⟩⟩, opv_cat rfl rfl rfl ((hρ 63 (lmem rfl)).trans rfl) ((hρ 64 (lmem rfl)).trans rfl) hz194⟩) rfl rfl
      ffn))))) ?_
    refine lt_call (dt := some 62) rfl rfl (fun ρ hρ => ⟨⟨_, rfl, .inl ⟨_, ((hρ 57 (lmem rfl)).trans rfl), gq hb182 rfl⟩⟩, opc_of rfl rfl is19 (ma_cons ((hρ 59 (lmem rfl)).trans rfl) (ma_cons ((hρ 61 (lmem rfl)).trans rfl) rfl))⟩) H (fun _ _ h _ => ⟨rfl, h⟩) fun r197 aw198 H => ?_
    refine lt_next (l := [9, 10, 11, 12, 13]) (hv := [(12, Value.bool (!decide (r197 = (a_0 ++ b_1)))), (13, Value.bool (!decide (r197 = (a_0 ++ b_1))))]) rfl rfl (pv_cons rfl (pv_cons rfl (pv_nil _)))
      (fc 63 (.string a_0) (hd_v rfl fun ρ hρ => ⟨⟨_, rfl, .inl ⟨_, ((hρ 57 (lmem rfl)).trans rfl), gq hb182 rfl⟩⟩, opv_move rfl rfl ((hρ 0 (lmem rfl)).trans h0)⟩) rfl rfl
      (fc 64 (.string b_1) (hd_v rfl fun ρ hρ => ⟨⟨_, rfl, .inl ⟨_, ((hρ 57 (lmem rfl)).trans rfl), gq hb182 rfl⟩⟩, opv_move rfl rfl ((hρ 1 (lmem rfl)).trans h1)⟩) rfl rfl
      (fc 65 (.string (a_0 ++ b_1)) (hd_v rfl fun ρ hρ => ⟨⟨_, rfl, .inl ⟨_, ((hρ 57 (lmem rfl)).trans rfl), gq hb182 rfl⟩⟩, opv_cat rfl rfl rfl ((hρ 63 (lmem rfl)).trans rfl) ((hρ 64 (lmem rfl)).trans rfl) hz194⟩) rfl rfl
      (fc 66 (.bool (!decide (r197 = (a_0 ++ b_1)))) (hd_v rfl fun ρ hρ => ⟨⟨_, rfl, .inl ⟨_, ((hρ 57 (lmem rfl)).trans rfl), gq hb182 rfl⟩⟩, opv_neS rfl rfl rfl ((hρ 62 (lmem rfl)).trans rfl) ((hρ 65 (lmem rfl)).trans rfl)⟩) rfl rfl
      (fc 67 (.bool (!decide (r197 = (a_0 ++ b_1)))) (hd_v rfl fun ρ hρ => ⟨rfl, ov_pickF rfl rfl rfl rfl ((hρ 57 (lmem rfl)).trans rfl) hb182 ((hρ 66 (lmem rfl)).trans rfl)⟩) rfl rfl
      ffn))))) ?_
    refine lt_end ?_
    refine ago_condE  (rfl : C6_33 = .cond (.tmp 67) C6_34 C6_37) rfl rfl (fun hb199 => ?_) (fun hb199 => ?_)
    · replace H := cnd_t H hb199
      refine ago_seqE (rfl : C6_34 = .seq C6_35 C6_36) ?_
      refine ago_regE (rfl : C6_35 = .region 10 R6_10 false) (l := [0]) rfl ?_
      refine lj 4 R6_10_N rfl rfl rfl (opv_assign rfl rfl rfl) ?_
      refine aops_nil ?_
      exact ago_retE (rfl : C6_36 = .ret) (r := false) (ares_1 rfl (oneT rfl)) rfl H
    replace H := cnd_f H hb199
    refine ago_skipE (rfl : C6_37 = .skip) ?_
    exact S6_2_ok Q E  _ a_0 b_1 aw198 h0 h1 H
theorem S6_0_ok (Q : Bool → AW → Prop) (E : List PanicEntry → AW → Prop)  (ρ : Env) (a_0 : ByteArray) (b_1 : ByteArray) (aw : AW) (h0 : ρ 0 = .string a_0) (h1 : ρ 1 = .string b_1) (H : S6_0 Q E  a_0 b_1 aw) :
    AGo prog 137 [.code C6_0] ρ [] aw (RR prog f6 137 sh6 Q E) := by
  unfold S6_0 at H
  refine ago_seqE (rfl : C6_0 = .seq C6_1 C6_2) ?_
  refine ago_regE (rfl : C6_1 = .region 0 R6_0 false) (l := [0]) rfl ?_
  refine lj 4 R6_0_N rfl rfl rfl (opv_assign rfl rfl rfl) ?_
  refine aops_nil ?_
  refine ago_seqE (rfl : C6_2 = .seq C6_3 C6_10) ?_
  refine ago_seqE (rfl : C6_3 = .seq C6_4 C6_5) ?_
  refine ago_regE (rfl : C6_4 = .region 1 R6_1 false) (l := [0, 1, 2, 3, 4, 5, 6, 7, 8, 9, 10, 11]) rfl ?_
  refine lc 14 R6_1_N rfl rfl rfl (opc_of rfl rfl is11 rfl) H (fun _ _ h => ⟨rfl, h⟩) fun r200 aw201 H => ?_
  refine lj 15 R6_1_N rfl rfl rfl (opv_not rfl rfl rfl) ?_
  refine lj 16 R6_1_N rfl rfl rfl (opv_move rfl rfl rfl) ?_
  rcases Bool.eq_false_or_eq_true (!r200) with hb202 | hb202
  · replace H := cnd_t H hb202
    refine ls 17 R6_1_N rfl rfl ⟨_, rfl, .inl ⟨_, rfl, gq hb202 rfl⟩⟩ ?_
    refine ls 18 R6_1_N rfl rfl ⟨_, rfl, .inl ⟨_, rfl, gq hb202 rfl⟩⟩ ?_
    refine ls 19 R6_1_N rfl rfl ⟨_, rfl, .inl ⟨_, rfl, gq hb202 rfl⟩⟩ ?_
    refine lj 20 R6_1_N rfl rfl rfl (ov_pickT rfl rfl rfl rfl rfl hb202 rfl) ?_
    refine lj 21 R6_1_N rfl rfl rfl (opv_move rfl rfl rfl) ?_
    refine ls 22 R6_1_N rfl rfl ⟨_, rfl, .inl ⟨_, rfl, gq rfl rfl⟩⟩ ?_
    refine ls 23 R6_1_N rfl rfl ⟨_, rfl, .inl ⟨_, rfl, gq rfl rfl⟩⟩ ?_
    refine ls 24 R6_1_N rfl rfl ⟨_, rfl, .inl ⟨_, rfl, gq rfl rfl⟩⟩ ?_
    refine lj 25 R6_1_N rfl rfl rfl (ov_pickT rfl rfl rfl rfl rfl rfl rfl) ?_
    refine aops_nil ?_
    exact S6_1_ok Q E  _ a_0 b_1 true aw201 h0 h1 rfl H
  · replace H := cnd_f H hb202
    refine lj 17 R6_1_N rfl rfl ⟨_, rfl, .inl ⟨_, rfl, gq hb202 rfl⟩⟩ (opv_move rfl rfl h0) ?_
    refine lj 18 R6_1_N rfl rfl ⟨_, rfl, .inl ⟨_, rfl, gq hb202 rfl⟩⟩ (opv_lenS rfl rfl rfl underlying9 rfl) ?_
    refine lj 19 R6_1_N rfl rfl ⟨_, rfl, .inl ⟨_, rfl, gq hb202 rfl⟩⟩ (opv_gt rfl rfl rfl rfl rfl) ?_
    refine lj 20 R6_1_N rfl rfl rfl (ov_pickF rfl rfl rfl rfl rfl hb202 rfl) ?_
    refine lj 21 R6_1_N rfl rfl rfl (opv_move rfl rfl rfl) ?_
    rcases Bool.eq_false_or_eq_true (decide (2500 < (a_0.size : Int))) with hb203 | hb203
    · replace H := cnd_t H hb203
      refine ls 22 R6_1_N rfl rfl ⟨_, rfl, .inl ⟨_, rfl, gq hb203 rfl⟩⟩ ?_
      refine ls 23 R6_1_N rfl rfl ⟨_, rfl, .inl ⟨_, rfl, gq hb203 rfl⟩⟩ ?_
      refine ls 24 R6_1_N rfl rfl ⟨_, rfl, .inl ⟨_, rfl, gq hb203 rfl⟩⟩ ?_
      refine lj 25 R6_1_N rfl rfl rfl (ov_pickT rfl rfl rfl rfl rfl hb203 rfl) ?_
      refine aops_nil ?_
      exact S6_1_ok Q E  _ a_0 b_1 true aw201 h0 h1 rfl H
    · replace H := cnd_f H hb203
      refine lj 22 R6_1_N rfl rfl ⟨_, rfl, .inl ⟨_, rfl, gq hb203 rfl⟩⟩ (opv_move rfl rfl h1) ?_
      refine lj 23 R6_1_N rfl rfl ⟨_, rfl, .inl ⟨_, rfl, gq hb203 rfl⟩⟩ (opv_lenS rfl rfl rfl underlying9 rfl) ?_
      refine lj 24 R6_1_N rfl rfl ⟨_, rfl, .inl ⟨_, rfl, gq hb203 rfl⟩⟩ (opv_gt rfl rfl rfl rfl rfl) ?_
      refine lj 25 R6_1_N rfl rfl rfl (ov_pickF rfl rfl rfl rfl rfl hb203 rfl) ?_
      refine aops_nil ?_
      exact S6_1_ok Q E  _ a_0 b_1 (decide (2500 < (b_1.size : Int))) aw201 h0 h1 rfl H
theorem F6_ok {Q : Bool → AW → Prop} {E : List PanicEntry → AW → Prop} (a_0 : ByteArray) (b_1 : ByteArray) (aw : AW) (H : S6_0 Q E a_0 b_1 aw) : CallP prog 6 [.string a_0, .string b_1] aw sh6 Q E :=
  callP_of func6 C6_is rfl (Nat.le_of_ble_eq_true rfl) (S6_0_ok Q E _ a_0 b_1 aw rfl rfl H)
def C13_0 := bodyOf f13
theorem C13_is : f13.body = some C13_0 := by kernel_rfl
def C13_1 := cl C13_0
def R13_0 := regOps C13_1
def C13_2 := cr C13_0
def C13_3 := cl C13_2
def R13_1 := regOps C13_3
def C13_4 := cr C13_2
def C13_5 := cl C13_4
def C13_6 := cl C13_5
def R13_2 := regOps C13_6
def C13_7 := cr C13_5
def C13_8 := cl C13_7
def C13_9 := cl C13_8
def R13_3 := regOps C13_9
def C13_10 := cr C13_8
def C13_11 := cr C13_7
def C13_12 := cr C13_4
def C13_13 := cl C13_12
def R13_4 := regOps C13_13
def C13_14 := cr C13_12
theorem R13_0_N : dstsOk 27 R13_0 = true := by decide +kernel
theorem R13_1_N : dstsOk 27 R13_1 = true := by decide +kernel
theorem R13_2_N : dstsOk 27 R13_2 = true := by decide +kernel
theorem R13_3_N : dstsOk 27 R13_3 = true := by decide +kernel
theorem R13_4_N : dstsOk 27 R13_4 = true := by decide +kernel
def S13_0 (Q : (Int × Int × ByteArray × ByteArray × Value × Int × Value) → AW → Prop) (E : List PanicEntry → AW → Prop)  (l_0 : Value) (fuel_1 : Int) (aw : AW) : Prop :=
  alc aw [.int .i64 0, .int .u64 0, .string (⟨#[]⟩ : ByteArray), .string (⟨#[]⟩ : ByteArray), (.slice none 0 0), .int .i64 0] 29 0 fun p1 aw2 =>
  CallP prog 15 [.int .i64 4000, .int .i64 8] aw2 sh15 (fun r5 aw6 =>
  cnd (!decide (r5.2 = 0)) (st aw6 p1 [.int .i64 3, .int .u64 0, .string (⟨#[]⟩ : ByteArray), .string (⟨#[]⟩ : ByteArray), (.slice none 0 0), .int .i64 0] fun aw9 =>
  ptr p1 fun b16 i17 => gI .i64 aw9 b16 i17 fun c19 => gI .u64 aw9 b16 (i17 + 1) fun c20 => gS aw9 b16 (i17 + 2) fun c21 => gS aw9 b16 (i17 + 3) fun c22 => gV aw9 b16 (i17 + 4) fun c23 => gI .i64 aw9 b16 (i17 + 5) fun c24 => Q (c19, c20, c21, c22, c23, c24, (.pointer none)) aw9) (one l_0 = true ∧ alcS aw6 [.int .i64 0, l_0] 43 2 1 fun p32 aw33 =>
  CallP prog 16 [r5.1, p32] aw33 sh16 (fun r36 aw37 =>
  cnd (!decide (r36 = 0)) (False) (CallP prog 17 [r5.1, .int .i64 0, .int .i64 fuel_1, .int .i64 10, .int .i64 50] aw37 sh17 (fun r39 aw40 =>
  st aw40 p1 [.int .i64 r39.1, .int .u64 r39.2.1, .string r39.2.2.1, .string r39.2.2.2.1, r39.2.2.2.2.1, .int .i64 r39.2.2.2.2.2] fun aw41 =>
  ptr p1 fun b48 i49 => gI .i64 aw41 b48 i49 fun c51 => gI .u64 aw41 b48 (i49 + 1) fun c52 => gS aw41 b48 (i49 + 2) fun c53 => gS aw41 b48 (i49 + 3) fun c54 => gV aw41 b48 (i49 + 4) fun c55 => gI .i64 aw41 b48 (i49 + 5) fun c56 => Q (c51, c52, c53, c54, c55, c56, r5.1) aw41) E)) E)) E
theorem S13_0_ok (Q : (Int × Int × ByteArray × ByteArray × Value × Int × Value) → AW → Prop) (E : List PanicEntry → AW → Prop)  (ρ : Env) (l_0 : Value) (fuel_1 : Int) (aw : AW) (h0 : ρ 0 = l_0) (h1 : ρ 1 = .int .i64 fuel_1) (H : S13_0 Q E  l_0 fuel_1 aw) :
    AGo prog 27 [.code C13_0] ρ [] aw (RR prog f13 27 sh13 Q E) := by
  unfold S13_0 at H
  refine ago_seqE (rfl : C13_0 = .seq C13_1 C13_2) ?_
  refine ago_regE (rfl : C13_1 = .region 0 R13_0 false) (l := [0, 1]) rfl ?_
  obtain ⟨p1, aw2, hp3, ha4, H⟩ := H
  refine lj 4 R13_0_N rfl rfl rfl (ov_alloc rfl z29 rfl rfl hp3 ha4) ?_
  refine lj 5 R13_0_N rfl rfl rfl (opv_assign rfl rfl rfl) ?_
  refine aops_nil ?_
  refine ago_seqE (rfl : C13_2 = .seq C13_3 C13_4) ?_
  refine ago_regE (rfl : C13_3 = .region 1 R13_1 false) (l := [0, 1, 2, 3, 4, 5]) rfl ?_
  refine lc 9 R13_1_N rfl rfl rfl (opc_of rfl rfl is15 (ma_cons rfl (ma_cons rfl rfl))) H (fun _ _ h => ⟨rfl, h⟩) fun r5 aw6 H => ?_
  refine lj 8 R13_1_N rfl rfl rfl (opv_move rfl rfl rfl) ?_
  refine lj 10 R13_1_N rfl rfl rfl (opv_extract rfl rfl rfl rfl) ?_
  refine lj 11 R13_1_N rfl rfl rfl (opv_extract rfl rfl rfl rfl) ?_
  refine lj 6 R13_1_N rfl rfl rfl (opv_assign rfl rfl rfl) ?_
  refine lj 7 R13_1_N rfl rfl rfl (opv_assign rfl rfl rfl) ?_
  refine aops_nil ?_
  refine ago_seqE (rfl : C13_4 = .seq C13_5 C13_12) ?_
  refine ago_seqE (rfl : C13_5 = .seq C13_6 C13_7) ?_
  refine ago_regE (rfl : C13_6 = .region 2 R13_2 false) (l := [0, 1, 2, 3, 4, 5, 6, 7, 8, 9]) rfl ?_
  refine lj 12 R13_2_N rfl rfl rfl (opv_move rfl rfl rfl) ?_
  refine lj 13 R13_2_N rfl rfl rfl (opv_neI rfl rfl rfl rfl rfl) ?_
  refine lj 14 R13_2_N rfl rfl rfl (opv_move rfl rfl rfl) ?_
  rcases Bool.eq_false_or_eq_true (!decide (r5.2 = 0)) with hb7 | hb7
  · replace H := cnd_t H hb7
    refine ls 15 R13_2_N rfl rfl ⟨_, rfl, .inl ⟨_, rfl, gq hb7 rfl⟩⟩ ?_
    refine ls 16 R13_2_N rfl rfl ⟨_, rfl, .inl ⟨_, rfl, gq hb7 rfl⟩⟩ ?_
    refine ls 17 R13_2_N rfl rfl ⟨_, rfl, .inl ⟨_, rfl, gq hb7 rfl⟩⟩ ?_
    refine ls 18 R13_2_N rfl rfl ⟨_, rfl, .inl ⟨_, rfl, gq hb7 rfl⟩⟩ ?_
    refine ls 19 R13_2_N rfl rfl ⟨_, rfl, .inl ⟨_, rfl, gq hb7 rfl⟩⟩ ?_
    refine ls 20 R13_2_N rfl rfl ⟨_, rfl, .inl ⟨_, rfl, gq hb7 rfl⟩⟩ ?_
    refine lj 21 R13_2_N rfl rfl rfl (ov_pickT rfl rfl rfl rfl rfl hb7 rfl) ?_
    refine aops_nil ?_
    refine ago_condE  (rfl : C13_7 = .cond (.tmp 21) C13_8 C13_11) rfl rfl (fun h => ?_) (fun h => tf h)
    refine ago_seqE (rfl : C13_8 = .seq C13_9 C13_10) ?_
    refine ago_cut (fun ρ => ρ 4 = p1 ∧ True) ⟨rfl, trivial⟩ (fun ρ ⟨h4, _⟩ => ?_)
    refine ago_regE (rfl : C13_9 = .region 3 R13_3 false) (l := [0, 1, 2]) rfl ?_
    refine lj 22 R13_3_N rfl rfl rfl (ov_bld (r := [.int .i64 3, .int .u64 0, .string (⟨#[]⟩ : ByteArray), .string (⟨#[]⟩ : ByteArray), (.slice none 0 0), .int .i64 0]) rfl rfl bo29 (mp_cons rfl rfl) (fillP rfl rfl rfl rfl (fillN rfl))) ?_
    obtain ⟨b10, i11, aw9, hp12, hw13, ho14, ha15, H⟩ := H
    refine lk (dt := none) R13_3_N rfl rfl rfl (ov_st rfl rfl rfl h4 rfl rfl sz29 hp12 hw13 ho14 ha15) ?_
    refine lj 5 R13_3_N rfl rfl rfl (opv_assign rfl rfl rfl) ?_
    refine aops_nil ?_
    obtain ⟨b16, i17, hp18, c19, hg25, c20, hg26, c21, hg27, c22, hg28, c23, hg29, c24, hg30, H⟩ := H
    exact ago_retE (rfl : C13_10 = .ret) (r := (c19, c20, c21, c22, c23, c24, (.pointer none))) (ares_2 rfl (oneN h4 hp18 underlying29 rfl sz29 (getN_cons hg25 (getN_cons hg26 (getN_cons hg27 (getN_cons hg28 (getN_cons hg29 (getN_cons hg30 getN_nil))))))) (oneT rfl)) rfl H
  · replace H := cnd_f H hb7
    refine lj 15 R13_2_N rfl rfl ⟨_, rfl, .inl ⟨_, rfl, gq hb7 rfl⟩⟩ (opv_move rfl rfl rfl) ?_
    refine lj 16 R13_2_N rfl rfl ⟨_, rfl, .inl ⟨_, rfl, gq hb7 rfl⟩⟩ (opv_move rfl rfl h0) ?_
    obtain ⟨h131, H⟩ := H
    refine lj 17 R13_2_N rfl rfl ⟨_, rfl, .inl ⟨_, rfl, gq hb7 rfl⟩⟩ (ov_bld (r := [.int .i64 0, l_0]) rfl rfl bo43 (mp_cons rfl rfl) (fillP (cells_one h131) rfl rfl rfl (fillN rfl))) ?_
    obtain ⟨p32, aw33, hp34, ha35, H⟩ := H
    refine lj 18 R13_2_N rfl rfl ⟨_, rfl, .inl ⟨_, rfl, gq hb7 rfl⟩⟩ (ov_bsA (r := [.int .i64 0, l_0]) (vs := [.agg #[.int .i64 0, l_0]]) rfl rfl underlying44 sz43 z43 rfl rfl rfl rfl rfl (mp_cons rfl rfl) (.cons (v := .agg #[.int .i64 0, l_0]) (xs := [.int .i64 0, l_0]) (r := []) rfl rfl .nil) hp34 ha35) ?_
    refine lc 19 R13_2_N rfl rfl ⟨_, rfl, .inl ⟨_, rfl, gq hb7 rfl⟩⟩ (opc_of rfl rfl is16 (ma_cons rfl (ma_cons rfl rfl))) H (fun _ _ h => ⟨rfl, h⟩) fun r36 aw37 H => ?_
    refine lj 20 R13_2_N rfl rfl ⟨_, rfl, .inl ⟨_, rfl, gq hb7 rfl⟩⟩ (opv_neI rfl rfl rfl rfl rfl) ?_
    refine lj 21 R13_2_N rfl rfl rfl (ov_pickF rfl rfl rfl rfl rfl hb7 rfl) ?_
    refine aops_nil ?_
    refine ago_condE  (rfl : C13_7 = .cond (.tmp 21) C13_8 C13_11) rfl rfl (fun hb38 => ?_) (fun hb38 => ?_)
    · exact (cnd_t H hb38).elim
    replace H := cnd_f H hb38
    refine ago_skipE (rfl : C13_11 = .skip) ?_
    refine ago_seqE (rfl : C13_12 = .seq C13_13 C13_14) ?_
    refine ago_cut (fun ρ => ρ 1 = .int .i64 fuel_1 ∧ ρ 4 = p1 ∧ ρ 6 = r5.1 ∧ True) ⟨h1, rfl, rfl, trivial⟩ (fun ρ ⟨h1, h4, h6, _⟩ => ?_)
    refine ago_regE (rfl : C13_13 = .region 4 R13_4 false) (l := [0, 1, 2, 3, 4, 5]) rfl ?_
    refine lj 23 R13_4_N rfl rfl rfl (opv_move rfl rfl h6) ?_
    refine lj 24 R13_4_N rfl rfl rfl (opv_move rfl rfl h1) ?_
    refine lc 25 R13_4_N rfl rfl rfl (opc_of rfl rfl is17 (ma_cons rfl (ma_cons rfl (ma_cons rfl (ma_cons rfl (ma_cons rfl rfl)))))) H (fun _ _ h => ⟨rfl, h⟩) fun r39 aw40 H => ?_
    refine lj 26 R13_4_N rfl rfl rfl (opv_move rfl rfl h6) ?_
    obtain ⟨b42, i43, aw41, hp44, hw45, ho46, ha47, H⟩ := H
    refine lk (dt := none) R13_4_N rfl rfl rfl (ov_st rfl rfl rfl h4 rfl rfl sz29 hp44 hw45 ho46 ha47) ?_
    refine lj 5 R13_4_N rfl rfl rfl (opv_assign rfl rfl rfl) ?_
    refine aops_nil ?_
    obtain ⟨b48, i49, hp50, c51, hg57, c52, hg58, c53, hg59, c54, hg60, c55, hg61, c56, hg62, H⟩ := H
    exact ago_retE (rfl : C13_14 = .ret) (r := (c51, c52, c53, c54, c55, c56, r5.1)) (ares_2 rfl (oneN h4 hp50 underlying29 rfl sz29 (getN_cons hg57 (getN_cons hg58 (getN_cons hg59 (getN_cons hg60 (getN_cons hg61 (getN_cons hg62 getN_nil))))))) (oneT rfl)) rfl H
theorem F13_ok {Q : (Int × Int × ByteArray × ByteArray × Value × Int × Value) → AW → Prop} {E : List PanicEntry → AW → Prop} (l_0 : Value) (fuel_1 : Int) (aw : AW) (H : S13_0 Q E l_0 fuel_1 aw) : CallP prog 13 [l_0, .int .i64 fuel_1] aw sh13 Q E :=
  callP_of func13 C13_is rfl (Nat.le_of_ble_eq_true rfl) (S13_0_ok Q E _ l_0 fuel_1 aw rfl rfl H)
end
end Go.Proofs.Tryd
