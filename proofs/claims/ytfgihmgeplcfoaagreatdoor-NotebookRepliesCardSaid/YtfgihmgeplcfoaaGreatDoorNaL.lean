/- Printed by a program of the prover: what the Go functions of this seat do, in steps. -/
import Derived.Test.YtfgihmgeplcfoaaGreatDoorNaF
import Derived.Test.YtfgihmgeplcfoaaGreatDoorNaB
import Derived.Test.YtfgihmgeplcfoaaGreatDoorNaC
import Derived.Test.YtfgihmgeplcfoaaGreatDoorNaD
set_option linter.unusedSectionVars false
set_option linter.unusedSimpArgs false
set_option linter.unusedVariables false
namespace Go.Proofs.Tryz
open Go Go.Am Go.RowKit
set_option maxHeartbeats 4000000
set_option maxRecDepth 100000
noncomputable section
variable [SymE]
def C3_0 := bodyOf f3
theorem C3_is : f3.body = some C3_0 := by kernel_rfl
def C3_1 := cl C3_0
def R3_0 := regOps C3_1
def C3_2 := cr C3_0
def C3_3 := cl C3_2
def C3_4 := cl C3_3
def R3_1 := regOps C3_4
def C3_5 := cr C3_3
def C3_6 := cl C3_5
def C3_7 := cl C3_6
def R3_2 := regOps C3_7
def C3_8 := cr C3_6
def C3_9 := cr C3_5
def C3_10 := cr C3_2
def C3_11 := cl C3_10
def C3_12 := cl C3_11
def R3_3 := regOps C3_12
def C3_13 := cr C3_11
def C3_14 := cl C3_13
def C3_15 := cl C3_14
def C3_16 := cl C3_15
def C3_17 := cl C3_16
def R3_4 := regOps C3_17
def C3_18 := cr C3_16
def C3_19 := cl C3_18
def C3_20 := cr C3_18
def C3_21 := cr C3_15
def C3_22 := cl C3_21
def C3_23 := cl C3_22
def C3_24 := cl C3_23
def R3_6 := regOps C3_24
def C3_25 := cr C3_23
def C3_26 := cl C3_25
def C3_27 := cl C3_26
def R3_7 := regOps C3_27
def C3_28 := cr C3_26
def C3_29 := cr C3_25
def C3_30 := cr C3_21
def R3_5 := regOps C3_30
def C3_31 := cr C3_10
def C3_32 := cl C3_31
def R3_8 := regOps C3_32
def C3_33 := cr C3_31
def C3_34 := cl C3_33
def R3_9 := regOps C3_34
def C3_35 := cr C3_33
def C3_36 := cl C3_35
def R3_10 := regOps C3_36
def C3_37 := cr C3_35
theorem R3_0_N : dstsOk 83 R3_0 = true := by decide +kernel
theorem R3_1_N : dstsOk 83 R3_1 = true := by decide +kernel
theorem R3_2_N : dstsOk 83 R3_2 = true := by decide +kernel
theorem R3_3_N : dstsOk 83 R3_3 = true := by decide +kernel
theorem R3_4_N : dstsOk 83 R3_4 = true := by decide +kernel
theorem R3_6_N : dstsOk 83 R3_6 = true := by decide +kernel
theorem R3_6_O : linOk R3_6 [0, 1, 2, 3, 4, 5, 6, 7, 8, 9, 10, 11, 12, 13, 14, 15, 16, 17, 18, 19, 20, 21, 22, 23] [] = true := by decide +kernel
theorem R3_7_N : dstsOk 83 R3_7 = true := by decide +kernel
theorem R3_5_N : dstsOk 83 R3_5 = true := by decide +kernel
theorem R3_8_N : dstsOk 83 R3_8 = true := by decide +kernel
theorem R3_9_N : dstsOk 83 R3_9 = true := by decide +kernel
theorem R3_10_N : dstsOk 83 R3_10 = true := by decide +kernel
theorem R3_10_O : linOk R3_10 [0, 1, 2] [(3, [0, 1], [4, 5, 6, 7, 8, 9, 10, 11, 12]), (13, [], [14, 15])] = true := by decide +kernel
def S3_1s (Q : Bool → AW → Prop) (E : List PanicEntry → AW → Prop)  (nx1 : Value → Int → AW → Prop) (o_1 : Value) (i_3 : Int) (aw : AW) : Prop :=
  fldA o_1 3 fun p1 =>
  ldV aw p1 fun x9 =>
  slen x9 fun n11 =>
  cnd (decide (i_3 < n11)) (fldA o_1 3 fun p18 =>
  ldV aw p18 fun x26 =>
  ixS x26 i_3 3 fun p28 =>
  fldA p28 0 fun p37 =>
  ldS aw p37 fun x45 =>
  fldA o_1 3 fun p47 =>
  ldV aw p47 fun x55 =>
  ixS x55 i_3 3 fun p57 =>
  fldA p57 1 fun p66 =>
  ldS aw p66 fun x74 =>
  fldA o_1 3 fun p76 =>
  ldV aw p76 fun x84 =>
  ixS x84 i_3 3 fun p86 =>
  fldA p86 2 fun p95 =>
  ldS aw p95 fun x103 =>
  cnd (decide (5000 < (IntKind.i64.wrap ((IntKind.i64.wrap ((x45.size : Int) + (x74.size : Int))) + (x103.size : Int))))) (Q true aw) (nx1 o_1 (IntKind.i64.wrap (i_3 + 1)) aw)) (ptr o_1 fun b106 i107 =>
  gI .i64 aw b106 i107 fun c109 =>
  gI .i64 aw b106 (i107 + 1) fun c110 =>
  gS aw b106 (i107 + 2) fun c111 =>
  gV aw b106 (i107 + 3) fun c112 =>
  gS aw b106 (i107 + 4) fun c113 =>
  gV aw b106 (i107 + 5) fun c114 =>
  CallP prog 6 [.agg #[.int .i64 c109, .int .i64 c110, .string c111, c112, .string c113, c114]] aw sh6 (fun r121 aw122 =>
  CallP prog 7 [r121] aw122 sh7 (fun r123 aw124 =>
  alc aw124 [.int .i64 0, .int .i64 0, .string (⟨#[]⟩ : ByteArray), (.slice none 0 0), .string (⟨#[]⟩ : ByteArray), (.slice none 0 0)] 26 0 fun p125 aw126 =>
  st aw126 p125 [.int .i64 r123.1, .int .i64 r123.2.1, .string r123.2.2.1, r123.2.2.2.1, .string r123.2.2.2.2.1, r123.2.2.2.2.2.1] fun aw129 =>
  toS aw129 r121 fun s136 =>
  ptr o_1 fun b143 i144 =>
  gI .i64 aw129 b143 i144 fun c146 =>
  gI .i64 aw129 b143 (i144 + 1) fun c147 =>
  gS aw129 b143 (i144 + 2) fun c148 =>
  gV aw129 b143 (i144 + 3) fun c149 =>
  gS aw129 b143 (i144 + 4) fun c150 =>
  gV aw129 b143 (i144 + 5) fun c151 =>
  CallP prog 8 [.agg #[.int .i64 c146, .int .i64 c147, .string c148, c149, .string c150, c151]] aw129 sh8 (fun r158 aw159 =>
  againS aw159 r121 s136 ∧ toS aw159 r158 fun s160 =>
  cnd (decide (s136 = s160)) (cnd (decide (r123.2.2.2.2.2.2 = 0)) (ptr o_1 fun b169 i170 =>
  gI .i64 aw159 b169 i170 fun c172 =>
  gI .i64 aw159 b169 (i170 + 1) fun c173 =>
  gS aw159 b169 (i170 + 2) fun c174 =>
  gV aw159 b169 (i170 + 3) fun c175 =>
  gS aw159 b169 (i170 + 4) fun c176 =>
  gV aw159 b169 (i170 + 5) fun c177 =>
  ptr p125 fun b184 i185 =>
  gI .i64 aw159 b184 i185 fun c187 =>
  gI .i64 aw159 b184 (i185 + 1) fun c188 =>
  gS aw159 b184 (i185 + 2) fun c189 =>
  gV aw159 b184 (i185 + 3) fun c190 =>
  gS aw159 b184 (i185 + 4) fun c191 =>
  gV aw159 b184 (i185 + 5) fun c192 =>
  CallP prog 9 [.agg #[.int .i64 c172, .int .i64 c173, .string c174, c175, .string c176, c177], .agg #[.int .i64 c187, .int .i64 c188, .string c189, c190, .string c191, c192]] aw159 sh9 (fun r199 aw200 =>
  Q r199 aw200) E) (Q false aw159)) (Q false aw159)) E) E) E)
def S3_1 (Q : Bool → AW → Prop) (E : List PanicEntry → AW → Prop)  : Nat → Value → Int → AW → Prop
  | 0 => fun _ _ _ => False
  | n + 1 => S3_1s Q E  (S3_1 Q E  n)
def S3_0 (Q : Bool → AW → Prop) (E : List PanicEntry → AW → Prop)  (o_0_0 : Int) (o_0_1 : Int) (o_0_2 : ByteArray) (o_0_3 : Value) (o_0_4 : ByteArray) (o_0_5 : Value) (aw : AW) : Prop :=
  alc aw [.int .i64 o_0_0, .int .i64 o_0_1, .string o_0_2, o_0_3, .string o_0_4, o_0_5] 26 0 fun p201 aw202 =>
  CallP prog 5 [] aw202 sh5 (fun r205 aw206 =>
  cnd (!r205) (CallP prog 5 [] aw206 sh5 (fun r209 aw210 =>
  Q r209 aw210) E) (fldA p201 3 fun p211 =>
  ldV aw206 p211 fun x219 =>
  slen x219 fun n221 =>
  fldA p201 5 fun p227 =>
  ldV aw206 p227 fun x235 =>
  slen x235 fun n237 =>
  cnd (decide (300 < (IntKind.i64.wrap (n221 + n237)))) (CallP prog 5 [] aw206 sh5 (fun r245 aw246 =>
  Q r245 aw246) E) (fldA p201 4 fun p247 =>
  ldS aw206 p247 fun x255 =>
  fldA p201 2 fun p257 =>
  ldS aw206 p257 fun x265 =>
  cnd (decide (5000 < (IntKind.i64.wrap ((x255.size : Int) + (x265.size : Int))))) (CallP prog 5 [] aw206 sh5 (fun r268 aw269 =>
  Q r268 aw269) E) (∃ n, S3_1 Q E  n p201 0 aw206)))) E
theorem S3_1s_ok (Q : Bool → AW → Prop) (E : List PanicEntry → AW → Prop)  (nx1 : Value → Int → AW → Prop) (L1 : ∀ (ρ : Env) (o_1 : Value) (i_3 : Int) (aw : AW) (h1 : ρ 1 = o_1) (h3 : ρ 3 = .int .i64 i_3), nx1 o_1 i_3 aw → AGo prog 83 [.code C3_15, .inLoop C3_15, .inBlock 0, .code C3_31] ρ [] aw (RR prog f3 83 sh3 Q E)) (ρ : Env) (o_1 : Value) (i_3 : Int) (aw : AW) (h1 : ρ 1 = o_1) (h3 : ρ 3 = .int .i64 i_3) (H : S3_1s Q E  nx1 o_1 i_3 aw) :
    AGo prog 83 [.code C3_15, .inLoop C3_15, .inBlock 0, .code C3_31] ρ [] aw (RR prog f3 83 sh3 Q E) := by
  unfold S3_1s at H
  refine ago_seqE (rfl : C3_15 = .seq C3_16 C3_21) ?_
  refine ago_seqE (rfl : C3_16 = .seq C3_17 C3_18) ?_
  refine ago_regE (rfl : C3_17 = .region 4 R3_4 false) (l := [0, 1, 2, 3, 4]) rfl ?_
  refine lj 30 R3_4_N rfl rfl rfl (opv_move rfl rfl h3) ?_
  obtain ⟨b2, i3, p1, hp4, hv5, H⟩ := H
  refine lj 31 R3_4_N rfl rfl rfl (ov_fldA rfl rfl underlying26 rfl sz23 (by decide) h1 hp4 rfl hv5) ?_
  obtain ⟨b6, i7, x9, hp8, hg10, H⟩ := H
  refine lj 32 R3_4_N rfl rfl rfl (ov_ldV rfl underlying23 rfl rfl rfl hp8 hg10) ?_
  obtain ⟨q12, l13, c14, n11, hv15, hn16, H⟩ := H
  refine lj 33 R3_4_N rfl rfl rfl (ov_len rfl rfl rfl underlying23 rfl hv15 hn16) ?_
  refine lj 34 R3_4_N rfl rfl rfl (opv_lt rfl rfl rfl rfl rfl) ?_
  refine aops_nil ?_
  refine ago_condE  (rfl : C3_18 = .cond (.tmp 34) C3_19 C3_20) rfl rfl (fun hb17 => ?_) (fun hb17 => ?_)
  · replace H := cnd_t H hb17
    refine ago_skipE (rfl : C3_19 = .skip) ?_
    refine ago_seqE (rfl : C3_21 = .seq C3_22 C3_30) ?_
    refine ago_blockE (rfl : C3_22 = .block 1 C3_23) ?_
    refine ago_seqE (rfl : C3_23 = .seq C3_24 C3_25) ?_
    obtain ⟨b19, i20, p18, hp21, hv22, H⟩ := H
    obtain ⟨b23, i24, x26, hp25, hg27, H⟩ := H
    obtain ⟨b29, i30, l31, c32, p28, hp33, h034, hj35, hv36, H⟩ := H
    obtain ⟨b38, i39, p37, hp40, hv41, H⟩ := H
    obtain ⟨b42, i43, x45, hp44, hg46, H⟩ := H
    obtain ⟨b48, i49, p47, hp50, hv51, H⟩ := H
    obtain ⟨b52, i53, x55, hp54, hg56, H⟩ := H
    obtain ⟨b58, i59, l60, c61, p57, hp62, h063, hj64, hv65, H⟩ := H
    obtain ⟨b67, i68, p66, hp69, hv70, H⟩ := H
    obtain ⟨b71, i72, x74, hp73, hg75, H⟩ := H
    obtain ⟨b77, i78, p76, hp79, hv80, H⟩ := H
    obtain ⟨b81, i82, x84, hp83, hg85, H⟩ := H
    obtain ⟨b87, i88, l89, c90, p86, hp91, h092, hj93, hv94, H⟩ := H
    obtain ⟨b96, i97, p95, hp98, hv99, H⟩ := H
    obtain ⟨b100, i101, x103, hp102, hg104, H⟩ := H
    refine ago_drawH (p := [0, 1, 2, 3, 4, 5, 6, 7, 8, 9, 10, 11, 12, 13, 14, 15, 16, 17, 18, 19, 20, 21, 22, 23]) (tl := []) (hv := [(0, p18), (1, x26), (2, Value.int .i64 i_3), (3, p28), (4, p37), (5, Value.string x45), (6, Value.int .i64 (x45.size : Int)), (7, p47), (8, x55), (9, Value.int .i64 i_3), (10, p57), (11, p66), (12, Value.string x74), (13, Value.int .i64 (x74.size : Int)), (14, Value.int .i64 (IntKind.i64.wrap ((x45.size : Int) + (x74.size : Int)))), (15, p76), (16, x84), (17, Value.int .i64 i_3), (18, p86), (19, p95), (20, Value.string x103), (21, Value.int .i64 (x103.size : Int)), (22, Value.int .i64 (IntKind.i64.wrap ((IntKind.i64.wrap ((x45.size : Int) + (x74.size : Int))) + (x103.size : Int)))), (23, Value.bool (decide (5000 < (IntKind.i64.wrap ((IntKind.i64.wrap ((x45.size : Int) + (x74.size : Int))) + (x103.size : Int))))))]) (rfl : C3_24 = .region 6 R3_6 true) mixed R3_6_N R3_6_O rfl (pv_cons rfl (pv_cons rfl (pv_cons rfl (pv_cons rfl (pv_cons rfl (pv_cons rfl (pv_cons rfl (pv_cons rfl (pv_cons rfl (pv_cons rfl (pv_cons rfl (pv_cons rfl (pv_cons rfl (pv_cons rfl (pv_cons rfl (pv_cons rfl (pv_cons rfl (pv_cons rfl (pv_cons rfl (pv_cons rfl (pv_cons rfl (pv_cons rfl (pv_cons rfl (pv_cons rfl (pv_nil _)))))))))))))))))))))))))
      (fc 37 p18 (hd_v rfl fun ρ hρ => ⟨rfl, ov_fldA rfl rfl underlying26 rfl sz23 (by decide) ((hρ 1 (lmem rfl)).trans h1) hp21 rfl hv22⟩) rfl rfl
      (fc 38 x26 (hd_v rfl fun ρ hρ => ⟨rfl, ov_ldV rfl underlying23 rfl rfl ((hρ 37 (lmem rfl)).trans rfl) hp25 hg27⟩) rfl rfl
      (fc 39 (.int .i64 i_3) (hd_v rfl fun ρ hρ => ⟨rfl, opv_move rfl rfl ((hρ 3 (lmem rfl)).trans h3)⟩) rfl rfl
      (fc 40 p28 (hd_v rfl fun ρ hρ => ⟨rfl, ov_ixS rfl rfl rfl underlying23 sz29 ((hρ 38 (lmem rfl)).trans rfl) ((hρ 39 (lmem rfl)).trans rfl) hp33 h034 hj35 hv36⟩) rfl rfl
      (fc 41 p37 (hd_v rfl fun ρ hρ => ⟨rfl, ov_fldA rfl rfl underlying29 rfl sz9 (by decide) ((hρ 40 (lmem rfl)).trans rfl) hp40 rfl hv41⟩) rfl rfl
      (fc 42 (.string x45) (hd_v rfl fun ρ hρ => ⟨rfl, ov_ldS rfl underlying9 rfl ((hρ 41 (lmem rfl)).trans rfl) hp44 hg46⟩) rfl rfl
      (fc 43 (.int .i64 (x45.size : Int)) (hd_v rfl fun ρ hρ => ⟨rfl, opv_lenS rfl rfl rfl underlying9 ((hρ 42 (lmem rfl)).trans rfl)⟩) rfl rfl
      (fc 44 p47 (hd_v rfl fun ρ hρ => ⟨rfl, ov_fldA rfl rfl underlying26 rfl sz23 (by decide) ((hρ 1 (lmem rfl)).trans h1) hp50 rfl hv51⟩) rfl rfl
      (fc 45 x55 (hd_v rfl fun ρ hρ => ⟨rfl, ov_ldV rfl underlying23 rfl rfl ((hρ 44 (lmem rfl)).trans rfl) hp54 hg56⟩) rfl rfl
      (fc 46 (.int .i64 i_3) (hd_v rfl fun ρ hρ => ⟨rfl, opv_move rfl rfl ((hρ 3 (lmem rfl)).trans h3)⟩) rfl rfl
      (fc 47 p57 (hd_v rfl fun ρ hρ => ⟨rfl, ov_ixS rfl rfl rfl underlying23 sz29 ((hρ 45 (lmem rfl)).trans rfl) ((hρ 46 (lmem rfl)).trans rfl) hp62 h063 hj64 hv65⟩) rfl rfl
      (fc 48 p66 (hd_v rfl fun ρ hρ => ⟨rfl, ov_fldA rfl rfl underlying29 rfl sz9 (by decide) ((hρ 47 (lmem rfl)).trans rfl) hp69 rfl hv70⟩) rfl rfl
      (fc 49 (.string x74) (hd_v rfl fun ρ hρ => ⟨rfl, ov_ldS rfl underlying9 rfl ((hρ 48 (lmem rfl)).trans rfl) hp73 hg75⟩) rfl rfl
      (fc 50 (.int .i64 (x74.size : Int)) (hd_v rfl fun ρ hρ => ⟨rfl, opv_lenS rfl rfl rfl underlying9 ((hρ 49 (lmem rfl)).trans rfl)⟩) rfl rfl
      (fc 51 (.int .i64 (IntKind.i64.wrap ((x45.size : Int) + (x74.size : Int)))) (hd_v rfl fun ρ hρ => ⟨rfl, opv_add rfl rfl rfl ((hρ 43 (lmem rfl)).trans rfl) ((hρ 50 (lmem rfl)).trans rfl)⟩) rfl rfl
      (fc 52 p76 (hd_v rfl fun ρ hρ => ⟨rfl, ov_fldA rfl rfl underlying26 rfl sz23 (by decide) ((hρ 1 (lmem rfl)).trans h1) hp79 rfl hv80⟩) rfl rfl
      (fc 53 x84 (hd_v rfl fun ρ hρ => ⟨rfl, ov_ldV rfl underlying23 rfl rfl ((hρ 52 (lmem rfl)).trans rfl) hp83 hg85⟩) rfl rfl
      (fc 54 (.int .i64 i_3) (hd_v rfl fun ρ hρ => ⟨rfl, opv_move rfl rfl ((hρ 3 (lmem rfl)).trans h3)⟩) rfl rfl
      (fc 55 p86 (hd_v rfl fun ρ hρ => ⟨rfl, ov_ixS rfl rfl rfl underlying23 sz29 ((hρ 53 (lmem rfl)).trans rfl) ((hρ 54 (lmem rfl)).trans rfl) hp91 h092 hj93 hv94⟩) rfl rfl
      (fc 56 p95 (hd_v rfl fun ρ hρ => ⟨rfl, ov_fldA rfl rfl underlying29 rfl sz9 (by decide) ((hρ 55 (lmem rfl)).trans rfl) hp98 rfl hv99⟩) rfl rfl
      (fc 57 (.string x103) (hd_v rfl fun ρ hρ => ⟨rfl, ov_ldS rfl underlying9 rfl ((hρ 56 (lmem rfl)).trans rfl) hp102 hg104⟩) rfl rfl
      (fc 58 (.int .i64 (x103.size : Int)) (hd_v rfl fun ρ hρ => ⟨rfl, opv_lenS rfl rfl rfl underlying9 ((hρ 57 (lmem rfl)).trans rfl)⟩) rfl rfl
      (fc 59 (.int .i64 (IntKind.i64.wrap ((IntKind.i64.wrap ((x45.size : Int) + (x74.size : Int))) + (x103.size : Int)))) (hd_v rfl fun ρ hρ => ⟨rfl, opv_add rfl rfl rfl ((hρ 51 (lmem rfl)).trans rfl) ((hρ 58 (lmem rfl)).trans rfl)⟩) rfl rfl
      (fc 60 (.bool (decide (5000 < (IntKind.i64.wrap ((IntKind.i64.wrap ((x45.size : Int) + (x74.size : Int))) + (x103.size : Int)))))) (hd_v rfl fun ρ hρ => ⟨rfl, opv_gt rfl rfl rfl ((hρ 59 (lmem rfl)).trans rfl) rfl⟩) rfl rfl
      ffn)))))))))))))))))))))))) ?_
    refine lt_end ?_
    refine ago_condE  (rfl : C3_25 = .cond (.tmp 60) C3_26 C3_29) rfl rfl (fun hb105 => ?_) (fun hb105 => ?_)
    · replace H := cnd_t H hb105
      refine ago_seqE (rfl : C3_26 = .seq C3_27 C3_28) ?_
      refine ago_regE (rfl : C3_27 = .region 7 R3_7 false) (l := [0]) rfl ?_
      refine lj 2 R3_7_N rfl rfl rfl (opv_assign rfl rfl rfl) ?_
      refine aops_nil ?_
      exact ago_retE (rfl : C3_28 = .ret) (r := true) (ares_1 rfl (oneT rfl)) rfl H
    replace H := cnd_f H hb105
    refine ago_skipE (rfl : C3_29 = .skip) ?_
    refine ago_inBlock ?_
    refine ago_cut (fun ρ => ρ 1 = o_1 ∧ ρ 3 = .int .i64 i_3 ∧ True) ⟨h1, h3, trivial⟩ (fun ρ ⟨h1, h3, _⟩ => ?_)
    refine ago_regE (rfl : C3_30 = .region 5 R3_5 false) (l := [0, 1, 2]) rfl ?_
    refine lj 35 R3_5_N rfl rfl rfl (opv_move rfl rfl h3) ?_
    refine lj 36 R3_5_N rfl rfl rfl (opv_add rfl rfl rfl rfl rfl) ?_
    refine lj 3 R3_5_N rfl rfl rfl (opv_assign rfl rfl rfl) ?_
    refine aops_nil ?_
    refine ago_inLoop ?_
    exact L1 _ o_1 (IntKind.i64.wrap (i_3 + 1)) aw h1 rfl H
  replace H := cnd_f H hb17
  refine ago_exitE (rfl : C3_20 = .exit 0) rfl ?_
  refine ago_seqE (rfl : C3_31 = .seq C3_32 C3_33) ?_
  refine ago_regE (rfl : C3_32 = .region 8 R3_8 false) (l := [0, 1, 2]) rfl ?_
  obtain ⟨b106, i107, hp108, c109, hg115, c110, hg116, c111, hg117, c112, hg118, c113, hg119, c114, hg120, H⟩ := H
  refine lj 61 R3_8_N rfl rfl rfl (ov_ldN rfl underlying26 rfl sz26 rfl h1 hp108 (getN_cons hg115 (getN_cons hg116 (getN_cons hg117 (getN_cons hg118 (getN_cons hg119 (getN_cons hg120 getN_nil))))))) ?_
  refine lc 62 R3_8_N rfl rfl rfl (opc_of rfl rfl is6 (ma_cons rfl rfl)) H (fun _ _ h => ⟨rfl, h⟩) fun r121 aw122 H => ?_
  refine lj 4 R3_8_N rfl rfl rfl (opv_assign rfl rfl rfl) ?_
  refine aops_nil ?_
  refine ago_seqE (rfl : C3_33 = .seq C3_34 C3_35) ?_
  refine ago_regE (rfl : C3_34 = .region 9 R3_9 false) (l := [0, 1, 2, 3, 4, 5, 6, 7]) rfl ?_
  refine lj 64 R3_9_N rfl rfl rfl (opv_move rfl rfl rfl) ?_
  refine lc 65 R3_9_N rfl rfl rfl (opc_of rfl rfl is7 (ma_cons rfl rfl)) H (fun _ _ h => ⟨rfl, h⟩) fun r123 aw124 H => ?_
  refine lj 63 R3_9_N rfl rfl rfl (opv_move rfl rfl rfl) ?_
  refine lj 66 R3_9_N rfl rfl rfl (opv_extract rfl rfl rfl rfl) ?_
  refine lj 67 R3_9_N rfl rfl rfl (opv_extract rfl rfl rfl rfl) ?_
  obtain ⟨p125, aw126, hp127, ha128, H⟩ := H
  refine lj 5 R3_9_N rfl rfl rfl (ov_alloc rfl z26 rfl rfl hp127 ha128) ?_
  obtain ⟨b130, i131, aw129, hp132, hw133, ho134, ha135, H⟩ := H
  refine lk (dt := none) R3_9_N rfl rfl rfl (ov_st rfl rfl rfl rfl rfl rfl sz26 hp132 hw133 ho134 ha135) ?_
  refine lj 6 R3_9_N rfl rfl rfl (opv_assign rfl rfl rfl) ?_
  refine aops_nil ?_
  refine ago_seqE (rfl : C3_35 = .seq C3_36 C3_37) ?_
  refine ago_cut (fun ρ => ρ 1 = o_1 ∧ ρ 4 = r121 ∧ ρ 5 = p125 ∧ ρ 6 = .int .i64 r123.2.2.2.2.2.2 ∧ True) ⟨h1, rfl, rfl, rfl, trivial⟩ (fun ρ ⟨h1, h4, h5, h6, _⟩ => ?_)
  obtain ⟨l141, n140, s136, hs137, hq138, hv139, H⟩ := H
  have hl142 := srcB_len hs137
  obtain ⟨b143, i144, hp145, c146, hg152, c147, hg153, c148, hg154, c149, hg155, c150, hg156, c151, hg157, H⟩ := H
  refine ago_drawH (p := [0, 1, 2]) (tl := [(3, [0, 1], [4, 5, 6, 7, 8, 9, 10, 11, 12]), (13, [], [14, 15])]) (hv := [(0, r121), (1, Value.string s136), (2, Value.agg #[.int .i64 c146, .int .i64 c147, .string c148, c149, .string c150, c151])]) (rfl : C3_36 = .region 10 R3_10 true) mixed R3_10_N R3_10_O rfl (pv_cons rfl (pv_cons rfl (pv_cons rfl (pv_nil _))))
    (fc 68 r121 (hd_v rfl fun ρ hρ => ⟨rfl, opv_move rfl rfl ((hρ 4 (lmem rfl)).trans h4)⟩) rfl rfl
    (fc 69 (.string s136) (hd_v rfl fun ρ hρ => ⟨rfl, ov_toS rfl rfl underlying30 underlying9 underlying5 ((hρ 68 (lmem rfl)).trans rfl) hs137 hq138 hv139⟩) rfl rfl
    (fc 70 (.agg #[.int .i64 c146, .int .i64 c147, .string c148, c149, .string c150, c151]) (hd_v rfl fun ρ hρ => ⟨rfl, ov_ldN rfl underlying26 rfl sz26 rfl ((hρ 1 (lmem rfl)).trans h1) hp145 (getN_cons hg152 (getN_cons hg153 (getN_cons hg154 (getN_cons hg155 (getN_cons hg156 (getN_cons hg157 getN_nil))))))⟩) rfl rfl
    ffn))) ?_
  refine lt_call (dt := some 71) rfl rfl (fun ρ hρ => ⟨rfl, opc_of rfl rfl is8 (ma_cons ((hρ 70 (lmem rfl)).trans rfl) rfl)⟩) H (fun _ _ h _ => ⟨rfl, h⟩) fun r158 aw159 H => ?_
  obtain ⟨hs137, H⟩ := H
  replace hs137 := hs137 _ n140 hl142 hq138 hv139
  obtain ⟨l165, n164, s160, hs161, hq162, hv163, H⟩ := H
  have hl166 := srcB_len hs161
  rcases Bool.eq_false_or_eq_true (decide (s136 = s160)) with hb167 | hb167
  · replace H := cnd_t H hb167
    rcases Bool.eq_false_or_eq_true (decide (r123.2.2.2.2.2.2 = 0)) with hb168 | hb168
    · replace H := cnd_t H hb168
      obtain ⟨b169, i170, hp171, c172, hg178, c173, hg179, c174, hg180, c175, hg181, c176, hg182, c177, hg183, H⟩ := H
      obtain ⟨b184, i185, hp186, c187, hg193, c188, hg194, c189, hg195, c190, hg196, c191, hg197, c192, hg198, H⟩ := H
      refine lt_next (l := [0, 1, 4, 5, 6, 7, 8, 9, 10, 11, 12]) (hv := [(4, Value.string s160), (5, Value.bool (decide (s136 = s160))), (6, Value.bool (decide (s136 = s160))), (7, Value.int .i64 r123.2.2.2.2.2.2), (8, Value.bool (decide (r123.2.2.2.2.2.2 = 0))), (9, Value.bool (decide (r123.2.2.2.2.2.2 = 0))), (10, Value.bool (decide (r123.2.2.2.2.2.2 = 0))), (11, Value.agg #[.int .i64 c172, .int .i64 c173, .string c174, c175, .string c176, c177]), (12, Value.agg #[.int .i64 c187, .int .i64 c188, .string c189, c190, .string c191, c192])]) rfl rfl (pv_cons rfl (pv_cons rfl (pv_cons rfl (pv_cons rfl (pv_cons rfl (pv_cons rfl (pv_cons rfl (pv_cons rfl (pv_cons rfl (pv_nil _))))))))))
        (fc 68 r121 (hd_v rfl fun ρ hρ => ⟨rfl, opv_move rfl rfl ((hρ 4 (lmem rfl)).trans h4)⟩) rfl rfl
        (fc 69 (.string s136) (hd_v rfl fun ρ hρ => ⟨rfl, ov_toS rfl rfl underlying30 underlying9 underlying5 ((hρ 68 (lmem rfl)).trans rfl) hs137 hq138 hv139⟩) rfl rfl
        (fc 72 (.string s160) (hd_v rfl fun ρ hρ => ⟨rfl, ov_toS rfl rfl underlying30 underlying9 underlying5 ((hρ 71 (lmem rfl)).trans rfl) hs161 hq162 hv163⟩) rfl rfl
        (fc 73 (.bool (decide (s136 = s160))) (hd_v rfl fun ρ hρ => ⟨rfl, opv_eqS rfl rfl rfl ((hρ 69 (lmem rfl)).trans rfl) ((hρ 72 (lmem rfl)).trans rfl)⟩) rfl rfl
        (fc 74 (.bool (decide (s136 = s160))) (hd_v rfl fun ρ hρ => ⟨rfl, opv_move rfl rfl ((hρ 73 (lmem rfl)).trans rfl)⟩) rfl rfl
        (fc 75 (.int .i64 r123.2.2.2.2.2.2) (hd_v rfl fun ρ hρ => ⟨⟨_, rfl, .inl ⟨_, ((hρ 74 (lmem rfl)).trans rfl), gq hb167 rfl⟩⟩, opv_move rfl rfl ((hρ 6 (lmem rfl)).trans h6)⟩) rfl rfl
        (fc 76 (.bool (decide (r123.2.2.2.2.2.2 = 0))) (hd_v rfl fun ρ hρ => ⟨⟨_, rfl, .inl ⟨_, ((hρ 74 (lmem rfl)).trans rfl), gq hb167 rfl⟩⟩, opv_eqI rfl rfl rfl ((hρ 75 (lmem rfl)).trans rfl) rfl⟩) rfl rfl
        (fc 77 (.bool (decide (r123.2.2.2.2.2.2 = 0))) (hd_v rfl fun ρ hρ => ⟨rfl, ov_pickT rfl rfl rfl rfl ((hρ 74 (lmem rfl)).trans rfl) hb167 ((hρ 76 (lmem rfl)).trans rfl)⟩) rfl rfl
        (fc 78 (.bool (decide (r123.2.2.2.2.2.2 = 0))) (hd_v rfl fun ρ hρ => ⟨rfl, opv_move rfl rfl ((hρ 77 (lmem rfl)).trans rfl)⟩) rfl rfl
        (fc 79 (.agg #[.int .i64 c172, .int .i64 c173, .string c174, c175, .string c176, c177]) (hd_v rfl fun ρ hρ => ⟨⟨_, rfl, .inl ⟨_, ((hρ 78 (lmem rfl)).trans rfl), gq hb168 rfl⟩⟩, ov_ldN rfl underlying26 rfl sz26 rfl ((hρ 1 (lmem rfl)).trans h1) hp171 (getN_cons hg178 (getN_cons hg179 (getN_cons hg180 (getN_cons hg181 (getN_cons hg182 (getN_cons hg183 getN_nil))))))⟩) rfl rfl
        (fc 80 (.agg #[.int .i64 c187, .int .i64 c188, .string c189, c190, .string c191, c192]) (hd_v rfl fun ρ hρ => ⟨⟨_, rfl, .inl ⟨_, ((hρ 78 (lmem rfl)).trans rfl), gq hb168 rfl⟩⟩, ov_ldN rfl underlying26 rfl sz26 rfl ((hρ 5 (lmem rfl)).trans h5) hp186 (getN_cons hg193 (getN_cons hg194 (getN_cons hg195 (getN_cons hg196 (getN_cons hg197 (getN_cons hg198 getN_nil))))))⟩) rfl rfl
        ffn))))))))))) ?_
      refine lt_call (dt := some 81) rfl rfl (fun ρ hρ => ⟨⟨_, rfl, .inl ⟨_, ((hρ 78 (lmem rfl)).trans rfl), gq hb168 rfl⟩⟩, opc_of rfl rfl is9 (ma_cons ((hρ 79 (lmem rfl)).trans rfl) (ma_cons ((hρ 80 (lmem rfl)).trans rfl) rfl))⟩) H (fun _ _ h _ => ⟨rfl, h⟩) fun r199 aw200 H => ?_
      refine lt_next (l := [14, 15]) (hv := [(14, Value.bool r199), (15, Value.bool r199)]) rfl rfl (pv_cons rfl (pv_cons rfl (pv_nil _)))
        (fc 82 (.bool r199) (hd_v rfl fun ρ hρ => ⟨rfl, ov_pickT rfl rfl rfl rfl ((hρ 78 (lmem rfl)).trans rfl) hb168 ((hρ 81 (lmem rfl)).trans rfl)⟩) rfl rfl
        (fc 2 (.bool r199) (hd_v rfl fun ρ hρ => ⟨rfl, opv_assign rfl rfl ((hρ 82 (lmem rfl)).trans rfl)⟩) rfl rfl
        ffn)) ?_
      refine lt_end ?_
      exact ago_retE (rfl : C3_37 = .ret) (r := r199) (ares_1 rfl (oneT rfl)) rfl H
    · replace H := cnd_f H hb168
      refine lt_next (l := [0, 1, 4, 5, 6, 7, 8, 9, 10, 11, 12]) (hv := [(4, Value.string s160), (5, Value.bool (decide (s136 = s160))), (6, Value.bool (decide (s136 = s160))), (7, Value.int .i64 r123.2.2.2.2.2.2), (8, Value.bool (decide (r123.2.2.2.2.2.2 = 0))), (9, Value.bool (decide (r123.2.2.2.2.2.2 = 0))), (10, Value.bool (decide (r123.2.2.2.2.2.2 = 0))), (11, undef), (12, undef)]) rfl rfl (pv_cons rfl (pv_cons rfl (pv_cons rfl (pv_cons rfl (pv_cons rfl (pv_cons rfl (pv_cons rfl (pv_cons rfl (pv_cons rfl (pv_nil _))))))))))
        (fc 68 r121 (hd_v rfl fun ρ hρ => ⟨rfl, opv_move rfl rfl ((hρ 4 (lmem rfl)).trans h4)⟩) rfl rfl
        (fc 69 (.string s136) (hd_v rfl fun ρ hρ => ⟨rfl, ov_toS rfl rfl underlying30 underlying9 underlying5 ((hρ 68 (lmem rfl)).trans rfl) hs137 hq138 hv139⟩) rfl rfl
        (fc 72 (.string s160) (hd_v rfl fun ρ hρ => ⟨rfl, ov_toS rfl rfl underlying30 underlying9 underlying5 ((hρ 71 (lmem rfl)).trans rfl) hs161 hq162 hv163⟩) rfl rfl
        (fc 73 (.bool (decide (s136 = s160))) (hd_v rfl fun ρ hρ => ⟨rfl, opv_eqS rfl rfl rfl ((hρ 69 (lmem rfl)).trans rfl) ((hρ 72 (lmem rfl)).trans rfl)⟩) rfl rfl
        (fc 74 (.bool (decide (s136 = s160))) (hd_v rfl fun ρ hρ => ⟨rfl, opv_move rfl rfl ((hρ 73 (lmem rfl)).trans rfl)⟩) rfl rfl
        (fc 75 (.int .i64 r123.2.2.2.2.2.2) (hd_v rfl fun ρ hρ => ⟨⟨_, rfl, .inl ⟨_, ((hρ 74 (lmem rfl)).trans rfl), gq hb167 rfl⟩⟩, opv_move rfl rfl ((hρ 6 (lmem rfl)).trans h6)⟩) rfl rfl
        (fc 76 (.bool (decide (r123.2.2.2.2.2.2 = 0))) (hd_v rfl fun ρ hρ => ⟨⟨_, rfl, .inl ⟨_, ((hρ 74 (lmem rfl)).trans rfl), gq hb167 rfl⟩⟩, opv_eqI rfl rfl rfl ((hρ 75 (lmem rfl)).trans rfl) rfl⟩) rfl rfl
        (fc 77 (.bool (decide (r123.2.2.2.2.2.2 = 0))) (hd_v rfl fun ρ hρ => ⟨rfl, ov_pickT rfl rfl rfl rfl ((hρ 74 (lmem rfl)).trans rfl) hb167 ((hρ 76 (lmem rfl)).trans rfl)⟩) rfl rfl
        (fc 78 (.bool (decide (r123.2.2.2.2.2.2 = 0))) (hd_v rfl fun ρ hρ => ⟨rfl, opv_move rfl rfl ((hρ 77 (lmem rfl)).trans rfl)⟩) rfl rfl
        (fc 79 undef (hd_s rfl (fun ρ hρ => ⟨_, rfl, .inl ⟨_, ((hρ 78 (lmem rfl)).trans rfl), gq hb168 rfl⟩⟩) rfl) rfl rfl
        (fc 80 undef (hd_s rfl (fun ρ hρ => ⟨_, rfl, .inl ⟨_, ((hρ 78 (lmem rfl)).trans rfl), gq hb168 rfl⟩⟩) rfl) rfl rfl
        ffn))))))))))) ?_
      refine lt_skip (dt := some 81) rfl rfl (fun ρ hρ => ⟨_, rfl, .inl ⟨_, ((hρ 78 (lmem rfl)).trans rfl), gq hb168 rfl⟩⟩) ?_
      refine lt_next (l := [14, 15]) (hv := [(14, Value.bool false), (15, Value.bool false)]) rfl rfl (pv_cons rfl (pv_cons rfl (pv_nil _)))
        (fc 82 (.bool false) (hd_v rfl fun ρ hρ => ⟨rfl, ov_pickF rfl rfl rfl rfl ((hρ 78 (lmem rfl)).trans rfl) hb168 rfl⟩) rfl rfl
        (fc 2 (.bool false) (hd_v rfl fun ρ hρ => ⟨rfl, opv_assign rfl rfl ((hρ 82 (lmem rfl)).trans rfl)⟩) rfl rfl
        ffn)) ?_
      refine lt_end ?_
      exact ago_retE (rfl : C3_37 = .ret) (r := false) (ares_1 rfl (oneT rfl)) rfl H
  · replace H := cnd_f H hb167
    refine lt_next (l := [0, 1, 4, 5, 6, 7, 8, 9, 10, 11, 12]) (hv := [(4, Value.string s160), (5, Value.bool (decide (s136 = s160))), (6, Value.bool (decide (s136 = s160))), (7, undef), (8, undef), (9, Value.bool false), (10, Value.bool false), (11, undef), (12, undef)]) rfl rfl (pv_cons rfl (pv_cons rfl (pv_cons rfl (pv_cons rfl (pv_cons rfl (pv_cons rfl (pv_cons rfl (pv_cons rfl (pv_cons rfl (pv_nil _))))))))))
      (fc 68 r121 (hd_v rfl fun ρ hρ => ⟨rfl, opv_move rfl rfl ((hρ 4 (lmem rfl)).trans h4)⟩) rfl rfl
      (fc 69 (.string s136) (hd_v rfl fun ρ hρ => ⟨rfl, ov_toS rfl rfl underlying30 underlying9 underlying5 ((hρ 68 (lmem rfl)).trans rfl) hs137 hq138 hv139⟩) rfl rfl
      (fc 72 (.string s160) (hd_v rfl fun ρ hρ => ⟨rfl, ov_toS rfl rfl underlying30 underlying9 underlying5 ((hρ 71 (lmem rfl)).trans rfl) hs161 hq162 hv163⟩) rfl rfl
      (fc 73 (.bool (decide (s136 = s160))) (hd_v rfl fun ρ hρ => ⟨rfl, opv_eqS rfl rfl rfl ((hρ 69 (lmem rfl)).trans rfl) ((hρ 72 (lmem rfl)).trans rfl)⟩) rfl rfl
      (fc 74 (.bool (decide (s136 = s160))) (hd_v rfl fun ρ hρ => ⟨rfl, opv_move rfl rfl ((hρ 73 (lmem rfl)).trans rfl)⟩) rfl rfl
      (fc 75 undef (hd_s rfl (fun ρ hρ => ⟨_, rfl, .inl ⟨_, ((hρ 74 (lmem rfl)).trans rfl), gq hb167 rfl⟩⟩) rfl) rfl rfl
      (fc 76 undef (hd_s rfl (fun ρ hρ => ⟨_, rfl, .inl ⟨_, ((hρ 74 (lmem rfl)).trans rfl), gq hb167 rfl⟩⟩) rfl) rfl rfl
      (fc 77 (.bool false) (hd_v rfl fun ρ hρ => ⟨rfl, ov_pickF rfl rfl rfl rfl ((hρ 74 (lmem rfl)).trans rfl) hb167 rfl⟩) rfl rfl
      (fc 78 (.bool false) (hd_v rfl fun ρ hρ => ⟨rfl, opv_move rfl rfl ((hρ 77 (lmem rfl)).trans rfl)⟩) rfl rfl
      (fc 79 undef (hd_s rfl (fun ρ hρ => ⟨_, rfl, .inl ⟨_, ((hρ 78 (lmem rfl)).trans rfl), gq rfl rfl⟩⟩) rfl) rfl rfl
      (fc 80 undef (hd_s rfl (fun ρ hρ => ⟨_, rfl, .inl ⟨_, ((hρ 78 (lmem rfl)).trans rfl), gq rfl rfl⟩⟩) rfl) rfl rfl
      ffn))))))))))) ?_
    refine lt_skip (dt := some 81) rfl rfl (fun ρ hρ => ⟨_, rfl, .inl ⟨_, ((hρ 78 (lmem rfl)).trans rfl), gq rfl rfl⟩⟩) ?_
    refine lt_next (l := [14, 15]) (hv := [(14, Value.bool false), (15, Value.bool false)]) rfl rfl (pv_cons rfl (pv_cons rfl (pv_nil _)))
      (fc 82 (.bool false) (hd_v rfl fun ρ hρ => ⟨rfl, ov_pickF rfl rfl rfl rfl ((hρ 78 (lmem rfl)).trans rfl) rfl rfl⟩) rfl rfl
      (fc 2 (.bool false) (hd_v rfl fun ρ hρ => ⟨rfl, opv_assign rfl rfl ((hρ 82 (lmem rfl)).trans rfl)⟩) rfl rfl
      ffn)) ?_
    refine lt_end ?_
    exact ago_retE (rfl : C3_37 = .ret) (r := false) (ares_1 rfl (oneT rfl)) rfl H
theorem S3_1_ok (Q : Bool → AW → Prop) (E : List PanicEntry → AW → Prop)  : ∀ (n : Nat) (ρ : Env) (o_1 : Value) (i_3 : Int) (aw : AW) (h1 : ρ 1 = o_1) (h3 : ρ 3 = .int .i64 i_3), S3_1 Q E  n o_1 i_3 aw →
    AGo prog 83 [.code C3_15, .inLoop C3_15, .inBlock 0, .code C3_31] ρ [] aw (RR prog f3 83 sh3 Q E)
  | 0, _, _, _, _, _, _ => fun H => H.elim
  | n + 1, ρ, o_1, i_3, aw, h1, h3 => fun H => S3_1s_ok Q E  _ (S3_1_ok Q E  n) ρ o_1 i_3 aw h1 h3 H
theorem S3_0_ok (Q : Bool → AW → Prop) (E : List PanicEntry → AW → Prop)  (ρ : Env) (o_0_0 : Int) (o_0_1 : Int) (o_0_2 : ByteArray) (o_0_3 : Value) (o_0_4 : ByteArray) (o_0_5 : Value) (aw : AW) (h0 : ρ 0 = .agg #[.int .i64 o_0_0, .int .i64 o_0_1, .string o_0_2, o_0_3, .string o_0_4, o_0_5]) (H : S3_0 Q E  o_0_0 o_0_1 o_0_2 o_0_3 o_0_4 o_0_5 aw) :
    AGo prog 83 [.code C3_0] ρ [] aw (RR prog f3 83 sh3 Q E) := by
  unfold S3_0 at H
  refine ago_seqE (rfl : C3_0 = .seq C3_1 C3_2) ?_
  refine ago_regE (rfl : C3_1 = .region 0 R3_0 false) (l := [0, 1]) rfl ?_
  obtain ⟨p201, aw202, hp203, ha204, H⟩ := H
  refine lj 1 R3_0_N rfl rfl rfl (ov_box rfl rfl h0 rfl hp203 ha204) ?_
  refine lj 2 R3_0_N rfl rfl rfl (opv_assign rfl rfl rfl) ?_
  refine aops_nil ?_
  refine ago_seqE (rfl : C3_2 = .seq C3_3 C3_10) ?_
  refine ago_seqE (rfl : C3_3 = .seq C3_4 C3_5) ?_
  refine ago_regE (rfl : C3_4 = .region 1 R3_1 false) (l := [0, 1, 2, 3, 4, 5, 6, 7, 8, 9, 10, 11, 12, 13, 14, 15, 16, 17, 18, 19, 20, 21]) rfl ?_
  refine lc 7 R3_1_N rfl rfl rfl (opc_of rfl rfl is5 rfl) H (fun _ _ h => ⟨rfl, h⟩) fun r205 aw206 H => ?_
  refine lj 8 R3_1_N rfl rfl rfl (opv_not rfl rfl rfl) ?_
  refine lj 9 R3_1_N rfl rfl rfl (opv_move rfl rfl rfl) ?_
  rcases Bool.eq_false_or_eq_true (!r205) with hb207 | hb207
  · replace H := cnd_t H hb207
    refine ls 10 R3_1_N rfl rfl ⟨_, rfl, .inl ⟨_, rfl, gq hb207 rfl⟩⟩ ?_
    refine ls 11 R3_1_N rfl rfl ⟨_, rfl, .inl ⟨_, rfl, gq hb207 rfl⟩⟩ ?_
    refine ls 12 R3_1_N rfl rfl ⟨_, rfl, .inl ⟨_, rfl, gq hb207 rfl⟩⟩ ?_
    refine ls 13 R3_1_N rfl rfl ⟨_, rfl, .inl ⟨_, rfl, gq hb207 rfl⟩⟩ ?_
    refine ls 14 R3_1_N rfl rfl ⟨_, rfl, .inl ⟨_, rfl, gq hb207 rfl⟩⟩ ?_
    refine ls 15 R3_1_N rfl rfl ⟨_, rfl, .inl ⟨_, rfl, gq hb207 rfl⟩⟩ ?_
    refine ls 16 R3_1_N rfl rfl ⟨_, rfl, .inl ⟨_, rfl, gq hb207 rfl⟩⟩ ?_
    refine ls 17 R3_1_N rfl rfl ⟨_, rfl, .inl ⟨_, rfl, gq hb207 rfl⟩⟩ ?_
    refine lj 18 R3_1_N rfl rfl rfl (ov_pickT rfl rfl rfl rfl rfl hb207 rfl) ?_
    refine lj 19 R3_1_N rfl rfl rfl (opv_move rfl rfl rfl) ?_
    refine ls 20 R3_1_N rfl rfl ⟨_, rfl, .inl ⟨_, rfl, gq rfl rfl⟩⟩ ?_
    refine ls 21 R3_1_N rfl rfl ⟨_, rfl, .inl ⟨_, rfl, gq rfl rfl⟩⟩ ?_
    refine ls 22 R3_1_N rfl rfl ⟨_, rfl, .inl ⟨_, rfl, gq rfl rfl⟩⟩ ?_
    refine ls 23 R3_1_N rfl rfl ⟨_, rfl, .inl ⟨_, rfl, gq rfl rfl⟩⟩ ?_
    refine ls 24 R3_1_N rfl rfl ⟨_, rfl, .inl ⟨_, rfl, gq rfl rfl⟩⟩ ?_
    refine ls 25 R3_1_N rfl rfl ⟨_, rfl, .inl ⟨_, rfl, gq rfl rfl⟩⟩ ?_
    refine ls 26 R3_1_N rfl rfl ⟨_, rfl, .inl ⟨_, rfl, gq rfl rfl⟩⟩ ?_
    refine ls 27 R3_1_N rfl rfl ⟨_, rfl, .inl ⟨_, rfl, gq rfl rfl⟩⟩ ?_
    refine lj 28 R3_1_N rfl rfl rfl (ov_pickT rfl rfl rfl rfl rfl rfl rfl) ?_
    refine aops_nil ?_
    refine ago_condE  (rfl : C3_5 = .cond (.tmp 28) C3_6 C3_9) rfl rfl (fun h => ?_) (fun h => tf h)
    refine ago_seqE (rfl : C3_6 = .seq C3_7 C3_8) ?_
    refine ago_regE (rfl : C3_7 = .region 2 R3_2 false) (l := [0, 1]) rfl ?_
    refine lc 29 R3_2_N rfl rfl rfl (opc_of rfl rfl is5 rfl) H (fun _ _ h => ⟨rfl, h⟩) fun r209 aw210 H => ?_
    refine lj 2 R3_2_N rfl rfl rfl (opv_assign rfl rfl rfl) ?_
    refine aops_nil ?_
    exact ago_retE (rfl : C3_8 = .ret) (r := r209) (ares_1 rfl (oneT rfl)) rfl H
  · replace H := cnd_f H hb207
    obtain ⟨b212, i213, p211, hp214, hv215, H⟩ := H
    refine lj 10 R3_1_N rfl rfl ⟨_, rfl, .inl ⟨_, rfl, gq hb207 rfl⟩⟩ (ov_fldA rfl rfl underlying26 rfl sz23 (by decide) rfl hp214 rfl hv215) ?_
    obtain ⟨b216, i217, x219, hp218, hg220, H⟩ := H
    refine lj 11 R3_1_N rfl rfl ⟨_, rfl, .inl ⟨_, rfl, gq hb207 rfl⟩⟩ (ov_ldV rfl underlying23 rfl rfl rfl hp218 hg220) ?_
    obtain ⟨q222, l223, c224, n221, hv225, hn226, H⟩ := H
    refine lj 12 R3_1_N rfl rfl ⟨_, rfl, .inl ⟨_, rfl, gq hb207 rfl⟩⟩ (ov_len rfl rfl rfl underlying23 rfl hv225 hn226) ?_
    obtain ⟨b228, i229, p227, hp230, hv231, H⟩ := H
    refine lj 13 R3_1_N rfl rfl ⟨_, rfl, .inl ⟨_, rfl, gq hb207 rfl⟩⟩ (ov_fldA rfl rfl underlying26 rfl sz24 (by decide) rfl hp230 rfl hv231) ?_
    obtain ⟨b232, i233, x235, hp234, hg236, H⟩ := H
    refine lj 14 R3_1_N rfl rfl ⟨_, rfl, .inl ⟨_, rfl, gq hb207 rfl⟩⟩ (ov_ldV rfl underlying24 rfl rfl rfl hp234 hg236) ?_
    obtain ⟨q238, l239, c240, n237, hv241, hn242, H⟩ := H
    refine lj 15 R3_1_N rfl rfl ⟨_, rfl, .inl ⟨_, rfl, gq hb207 rfl⟩⟩ (ov_len rfl rfl rfl underlying24 rfl hv241 hn242) ?_
    refine lj 16 R3_1_N rfl rfl ⟨_, rfl, .inl ⟨_, rfl, gq hb207 rfl⟩⟩ (opv_add rfl rfl rfl rfl rfl) ?_
    refine lj 17 R3_1_N rfl rfl ⟨_, rfl, .inl ⟨_, rfl, gq hb207 rfl⟩⟩ (opv_gt rfl rfl rfl rfl rfl) ?_
    refine lj 18 R3_1_N rfl rfl rfl (ov_pickF rfl rfl rfl rfl rfl hb207 rfl) ?_
    refine lj 19 R3_1_N rfl rfl rfl (opv_move rfl rfl rfl) ?_
    rcases Bool.eq_false_or_eq_true (decide (300 < (IntKind.i64.wrap (n221 + n237)))) with hb243 | hb243
    · replace H := cnd_t H hb243
      refine ls 20 R3_1_N rfl rfl ⟨_, rfl, .inl ⟨_, rfl, gq hb243 rfl⟩⟩ ?_
      refine ls 21 R3_1_N rfl rfl ⟨_, rfl, .inl ⟨_, rfl, gq hb243 rfl⟩⟩ ?_
      refine ls 22 R3_1_N rfl rfl ⟨_, rfl, .inl ⟨_, rfl, gq hb243 rfl⟩⟩ ?_
      refine ls 23 R3_1_N rfl rfl ⟨_, rfl, .inl ⟨_, rfl, gq hb243 rfl⟩⟩ ?_
      refine ls 24 R3_1_N rfl rfl ⟨_, rfl, .inl ⟨_, rfl, gq hb243 rfl⟩⟩ ?_
      refine ls 25 R3_1_N rfl rfl ⟨_, rfl, .inl ⟨_, rfl, gq hb243 rfl⟩⟩ ?_
      refine ls 26 R3_1_N rfl rfl ⟨_, rfl, .inl ⟨_, rfl, gq hb243 rfl⟩⟩ ?_
      refine ls 27 R3_1_N rfl rfl ⟨_, rfl, .inl ⟨_, rfl, gq hb243 rfl⟩⟩ ?_
      refine lj 28 R3_1_N rfl rfl rfl (ov_pickT rfl rfl rfl rfl rfl hb243 rfl) ?_
      refine aops_nil ?_
      refine ago_condE  (rfl : C3_5 = .cond (.tmp 28) C3_6 C3_9) rfl rfl (fun h => ?_) (fun h => tf h)
      refine ago_seqE (rfl : C3_6 = .seq C3_7 C3_8) ?_
      refine ago_regE (rfl : C3_7 = .region 2 R3_2 false) (l := [0, 1]) rfl ?_
      refine lc 29 R3_2_N rfl rfl rfl (opc_of rfl rfl is5 rfl) H (fun _ _ h => ⟨rfl, h⟩) fun r245 aw246 H => ?_
      refine lj 2 R3_2_N rfl rfl rfl (opv_assign rfl rfl rfl) ?_
      refine aops_nil ?_
      exact ago_retE (rfl : C3_8 = .ret) (r := r245) (ares_1 rfl (oneT rfl)) rfl H
    · replace H := cnd_f H hb243
      obtain ⟨b248, i249, p247, hp250, hv251, H⟩ := H
      refine lj 20 R3_1_N rfl rfl ⟨_, rfl, .inl ⟨_, rfl, gq hb243 rfl⟩⟩ (ov_fldA rfl rfl underlying26 rfl sz9 (by decide) rfl hp250 rfl hv251) ?_
      obtain ⟨b252, i253, x255, hp254, hg256, H⟩ := H
      refine lj 21 R3_1_N rfl rfl ⟨_, rfl, .inl ⟨_, rfl, gq hb243 rfl⟩⟩ (ov_ldS rfl underlying9 rfl rfl hp254 hg256) ?_
      refine lj 22 R3_1_N rfl rfl ⟨_, rfl, .inl ⟨_, rfl, gq hb243 rfl⟩⟩ (opv_lenS rfl rfl rfl underlying9 rfl) ?_
      obtain ⟨b258, i259, p257, hp260, hv261, H⟩ := H
      refine lj 23 R3_1_N rfl rfl ⟨_, rfl, .inl ⟨_, rfl, gq hb243 rfl⟩⟩ (ov_fldA rfl rfl underlying26 rfl sz9 (by decide) rfl hp260 rfl hv261) ?_
      obtain ⟨b262, i263, x265, hp264, hg266, H⟩ := H
      refine lj 24 R3_1_N rfl rfl ⟨_, rfl, .inl ⟨_, rfl, gq hb243 rfl⟩⟩ (ov_ldS rfl underlying9 rfl rfl hp264 hg266) ?_
      refine lj 25 R3_1_N rfl rfl ⟨_, rfl, .inl ⟨_, rfl, gq hb243 rfl⟩⟩ (opv_lenS rfl rfl rfl underlying9 rfl) ?_
      refine lj 26 R3_1_N rfl rfl ⟨_, rfl, .inl ⟨_, rfl, gq hb243 rfl⟩⟩ (opv_add rfl rfl rfl rfl rfl) ?_
      refine lj 27 R3_1_N rfl rfl ⟨_, rfl, .inl ⟨_, rfl, gq hb243 rfl⟩⟩ (opv_gt rfl rfl rfl rfl rfl) ?_
      refine lj 28 R3_1_N rfl rfl rfl (ov_pickF rfl rfl rfl rfl rfl hb243 rfl) ?_
      refine aops_nil ?_
      refine ago_condE  (rfl : C3_5 = .cond (.tmp 28) C3_6 C3_9) rfl rfl (fun hb267 => ?_) (fun hb267 => ?_)
      · replace H := cnd_t H hb267
        refine ago_seqE (rfl : C3_6 = .seq C3_7 C3_8) ?_
        refine ago_regE (rfl : C3_7 = .region 2 R3_2 false) (l := [0, 1]) rfl ?_
        refine lc 29 R3_2_N rfl rfl rfl (opc_of rfl rfl is5 rfl) H (fun _ _ h => ⟨rfl, h⟩) fun r268 aw269 H => ?_
        refine lj 2 R3_2_N rfl rfl rfl (opv_assign rfl rfl rfl) ?_
        refine aops_nil ?_
        exact ago_retE (rfl : C3_8 = .ret) (r := r268) (ares_1 rfl (oneT rfl)) rfl H
      replace H := cnd_f H hb267
      refine ago_skipE (rfl : C3_9 = .skip) ?_
      refine ago_seqE (rfl : C3_10 = .seq C3_11 C3_31) ?_
      refine ago_seqE (rfl : C3_11 = .seq C3_12 C3_13) ?_
      refine ago_cut (fun ρ => ρ 1 = p201 ∧ True) ⟨rfl, trivial⟩ (fun ρ ⟨h1, _⟩ => ?_)
      refine ago_regE (rfl : C3_12 = .region 3 R3_3 false) (l := [0]) rfl ?_
      refine lj 3 R3_3_N rfl rfl rfl (opv_assign rfl rfl rfl) ?_
      refine aops_nil ?_
      refine ago_blockE (rfl : C3_13 = .block 0 C3_14) ?_
      refine ago_loopE (rfl : C3_14 = .loop C3_15) ?_
      obtain ⟨n, H⟩ := H
      exact S3_1_ok Q E  n _ p201 0 aw206 h1 rfl H
theorem F3_ok {Q : Bool → AW → Prop} {E : List PanicEntry → AW → Prop} (o_0_0 : Int) (o_0_1 : Int) (o_0_2 : ByteArray) (o_0_3 : Value) (o_0_4 : ByteArray) (o_0_5 : Value) (aw : AW) (H : S3_0 Q E o_0_0 o_0_1 o_0_2 o_0_3 o_0_4 o_0_5 aw) : CallP prog 3 [.agg #[.int .i64 o_0_0, .int .i64 o_0_1, .string o_0_2, o_0_3, .string o_0_4, o_0_5]] aw sh3 Q E :=
  callP_of func3 C3_is rfl (Nat.le_of_ble_eq_true rfl) (S3_0_ok Q E _ o_0_0 o_0_1 o_0_2 o_0_3 o_0_4 o_0_5 aw rfl H)
end
end Go.Proofs.Tryz
