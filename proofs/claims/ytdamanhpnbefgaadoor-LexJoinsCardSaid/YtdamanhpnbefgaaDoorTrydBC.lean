/- Printed by a program of the prover: what the Go functions of this seat do, in steps. -/
import Derived.Test.YtdamanhpnbefgaaDoorTrydB
set_option linter.unusedVariables false
namespace Go.Proofs.Tryd
open Go Go.Am Go.RowKit
/-! ### battledore/battledorelaw03.LexCovers: function 5 -/
noncomputable def C5_0 : Code := bodyOf f5
theorem C5_is : f5.body = some C5_0 := by kernel_rfl
noncomputable def C5_1 : Code := cl C5_0
noncomputable def R5_0 : Array Oper := regOps C5_1
noncomputable def C5_2 : Code := cr C5_0
noncomputable def C5_3 : Code := cl C5_2
noncomputable def C5_4 : Code := cl C5_3
noncomputable def R5_1 : Array Oper := regOps C5_4
noncomputable def C5_5 : Code := cr C5_3
noncomputable def C5_6 : Code := cl C5_5
noncomputable def C5_7 : Code := cl C5_6
noncomputable def R5_2 : Array Oper := regOps C5_7
noncomputable def C5_8 : Code := cr C5_6
noncomputable def C5_9 : Code := cr C5_5
noncomputable def C5_10 : Code := cr C5_2
noncomputable def C5_11 : Code := cl C5_10
noncomputable def R5_3 : Array Oper := regOps C5_11
noncomputable def C5_12 : Code := cr C5_10
noncomputable def C5_13 : Code := cl C5_12
noncomputable def C5_14 : Code := cl C5_13
noncomputable def R5_4 : Array Oper := regOps C5_14
noncomputable def C5_15 : Code := cr C5_13
noncomputable def C5_16 : Code := cl C5_15
noncomputable def C5_17 : Code := cl C5_16
noncomputable def R5_5 : Array Oper := regOps C5_17
noncomputable def C5_18 : Code := cr C5_16
noncomputable def C5_19 : Code := cr C5_15
noncomputable def C5_20 : Code := cr C5_12
noncomputable def C5_21 : Code := cl C5_20
noncomputable def C5_22 : Code := cl C5_21
noncomputable def R5_6 : Array Oper := regOps C5_22
noncomputable def C5_23 : Code := cr C5_21
noncomputable def C5_24 : Code := cl C5_23
noncomputable def C5_25 : Code := cl C5_24
noncomputable def C5_26 : Code := cl C5_25
noncomputable def C5_27 : Code := cl C5_26
noncomputable def R5_7 : Array Oper := regOps C5_27
noncomputable def C5_28 : Code := cr C5_26
noncomputable def C5_29 : Code := cl C5_28
noncomputable def C5_30 : Code := cr C5_28
noncomputable def C5_31 : Code := cr C5_25
noncomputable def C5_32 : Code := cl C5_31
noncomputable def C5_33 : Code := cl C5_32
noncomputable def C5_34 : Code := cl C5_33
noncomputable def R5_9 : Array Oper := regOps C5_34
noncomputable def C5_35 : Code := cr C5_33
noncomputable def C5_36 : Code := cl C5_35
noncomputable def C5_37 : Code := cl C5_36
noncomputable def R5_10 : Array Oper := regOps C5_37
noncomputable def C5_38 : Code := cr C5_36
noncomputable def C5_39 : Code := cl C5_38
noncomputable def C5_40 : Code := cl C5_39
noncomputable def R5_11 : Array Oper := regOps C5_40
noncomputable def C5_41 : Code := cr C5_39
noncomputable def C5_42 : Code := cr C5_38
noncomputable def C5_43 : Code := cr C5_35
noncomputable def C5_44 : Code := cl C5_43
noncomputable def R5_12 : Array Oper := regOps C5_44
noncomputable def C5_45 : Code := cr C5_43
noncomputable def C5_46 : Code := cl C5_45
noncomputable def C5_47 : Code := cl C5_46
noncomputable def R5_13 : Array Oper := regOps C5_47
noncomputable def C5_48 : Code := cr C5_46
noncomputable def C5_49 : Code := cr C5_45
noncomputable def C5_50 : Code := cr C5_31
noncomputable def R5_8 : Array Oper := regOps C5_50
noncomputable def C5_51 : Code := cr C5_20
noncomputable def C5_52 : Code := cl C5_51
noncomputable def R5_14 : Array Oper := regOps C5_52
noncomputable def C5_53 : Code := cr C5_51
theorem R5_0_N : dstsOk 125 R5_0 = true := by decide +kernel
theorem E5_1 : C5_1 = .region 0 R5_0 false := rfl
theorem R5_1_N : dstsOk 125 R5_1 = true := by decide +kernel
theorem E5_4 : C5_4 = .region 1 R5_1 false := rfl
theorem R5_2_N : dstsOk 125 R5_2 = true := by decide +kernel
theorem E5_7 : C5_7 = .region 2 R5_2 false := rfl
theorem E5_8 : C5_8 = .ret := rfl
theorem E5_6 : C5_6 = .seq C5_7 C5_8 := rfl
theorem E5_9 : C5_9 = .skip := rfl
theorem E5_5 : C5_5 = .cond (.tmp 9) C5_6 C5_9 := rfl
theorem E5_3 : C5_3 = .seq C5_4 C5_5 := rfl
theorem R5_3_N : dstsOk 125 R5_3 = true := by decide +kernel
theorem E5_11 : C5_11 = .region 3 R5_3 false := rfl
theorem R5_4_N : dstsOk 125 R5_4 = true := by decide +kernel
theorem E5_14 : C5_14 = .region 4 R5_4 false := rfl
theorem R5_5_N : dstsOk 125 R5_5 = true := by decide +kernel
theorem E5_17 : C5_17 = .region 5 R5_5 false := rfl
theorem E5_18 : C5_18 = .ret := rfl
theorem E5_16 : C5_16 = .seq C5_17 C5_18 := rfl
theorem E5_19 : C5_19 = .skip := rfl
theorem E5_15 : C5_15 = .cond (.tmp 17) C5_16 C5_19 := rfl
theorem E5_13 : C5_13 = .seq C5_14 C5_15 := rfl
theorem R5_6_N : dstsOk 125 R5_6 = true := by decide +kernel
theorem E5_22 : C5_22 = .region 6 R5_6 false := rfl
theorem R5_7_N : dstsOk 125 R5_7 = true := by decide +kernel
theorem E5_27 : C5_27 = .region 7 R5_7 false := rfl
theorem E5_29 : C5_29 = .skip := rfl
theorem E5_30 : C5_30 = .exit 0 := rfl
theorem E5_28 : C5_28 = .cond (.tmp 34) C5_29 C5_30 := rfl
theorem E5_26 : C5_26 = .seq C5_27 C5_28 := rfl
theorem R5_9_N : dstsOk 125 R5_9 = true := by decide +kernel
theorem E5_34 : C5_34 = .region 9 R5_9 false := rfl
theorem R5_10_N : dstsOk 125 R5_10 = true := by decide +kernel
theorem R5_10_O : drawOk R5_10 [0, 1, 2, 3, 4, 5, 6, 7, 8, 9, 10, 11, 12, 13, 14, 15, 16, 17, 18, 19, 20, 21, 22, 23, 24, 25, 26, 27, 28, 29, 30] [] = true := by decide +kernel
theorem E5_37 : C5_37 = .region 10 R5_10 true := rfl
theorem R5_11_N : dstsOk 125 R5_11 = true := by decide +kernel
theorem E5_40 : C5_40 = .region 11 R5_11 false := rfl
theorem E5_41 : C5_41 = .ret := rfl
theorem E5_39 : C5_39 = .seq C5_40 C5_41 := rfl
theorem E5_42 : C5_42 = .skip := rfl
theorem E5_38 : C5_38 = .cond (.tmp 71) C5_39 C5_42 := rfl
theorem E5_36 : C5_36 = .seq C5_37 C5_38 := rfl
theorem R5_12_N : dstsOk 125 R5_12 = true := by decide +kernel
theorem R5_12_O : drawOk R5_12 [0, 1, 2, 3, 4, 5, 6, 7, 8, 9, 10, 11, 12, 13, 14, 15, 16, 17, 18, 19, 20, 21, 22, 23, 24, 25, 26, 27, 28, 29, 30, 31, 32, 33] [] = true := by decide +kernel
theorem E5_44 : C5_44 = .region 12 R5_12 true := rfl
theorem R5_13_N : dstsOk 125 R5_13 = true := by decide +kernel
theorem E5_47 : C5_47 = .region 13 R5_13 false := rfl
theorem E5_48 : C5_48 = .ret := rfl
theorem E5_46 : C5_46 = .seq C5_47 C5_48 := rfl
theorem E5_49 : C5_49 = .skip := rfl
theorem E5_45 : C5_45 = .cond (.tmp 105) C5_46 C5_49 := rfl
theorem E5_43 : C5_43 = .seq C5_44 C5_45 := rfl
theorem E5_35 : C5_35 = .seq C5_36 C5_43 := rfl
theorem E5_33 : C5_33 = .seq C5_34 C5_35 := rfl
theorem E5_32 : C5_32 = .block 1 C5_33 := rfl
theorem R5_8_N : dstsOk 125 R5_8 = true := by decide +kernel
theorem E5_50 : C5_50 = .region 8 R5_8 false := rfl
theorem E5_31 : C5_31 = .seq C5_32 C5_50 := rfl
theorem E5_25 : C5_25 = .seq C5_26 C5_31 := rfl
theorem E5_24 : C5_24 = .loop C5_25 := rfl
theorem E5_23 : C5_23 = .block 0 C5_24 := rfl
theorem E5_21 : C5_21 = .seq C5_22 C5_23 := rfl
theorem R5_14_N : dstsOk 125 R5_14 = true := by decide +kernel
theorem E5_52 : C5_52 = .region 14 R5_14 false := rfl
theorem E5_53 : C5_53 = .ret := rfl
theorem E5_51 : C5_51 = .seq C5_52 C5_53 := rfl
theorem E5_20 : C5_20 = .seq C5_21 C5_51 := rfl
theorem E5_12 : C5_12 = .seq C5_13 C5_20 := rfl
theorem E5_10 : C5_10 = .seq C5_11 C5_12 := rfl
theorem E5_2 : C5_2 = .seq C5_3 C5_10 := rfl
theorem E5_0 : C5_0 = .seq C5_1 C5_2 := rfl
def S5_2 (Q : Bool → AW → Prop) (E : List PanicEntry → AW → Prop) (nx1 : ByteArray → Value → Int → Int → AW → Prop) (s_0 : ByteArray) (l_3 : Value) (at_4 : Int) (i_6 : Int) (t_7 : Value) (t_71 : Bool) (aw : AW) : Prop :=
  cnd t_71 (Q false aw) (fldA t_7 0 fun p2 =>
  ldI .u8 aw p2 fun x10 =>
  cnd (!decide (x10 = 5)) (fldA t_7 0 fun p13 =>
  ldI .u8 aw p13 fun x21 =>
  cnd (!decide (x21 = 0)) (fldA t_7 2 fun p24 =>
  ldI .i64 aw p24 fun x32 =>
  fldA t_7 1 fun p34 =>
  ldS aw p34 fun x42 =>
  cnd (decide ((IntKind.i64.wrap ((s_0.size : Int) - x32)) < (x42.size : Int))) (Q false aw) (fldA t_7 2 fun p46 =>
  ldI .i64 aw p46 fun x54 =>
  fldA t_7 2 fun p56 =>
  ldI .i64 aw p56 fun x64 =>
  fldA t_7 1 fun p66 =>
  ldS aw p66 fun x74 =>
  cutS s_0 x54 (IntKind.i64.wrap (x64 + (x74.size : Int))) fun s76 =>
  fldA t_7 1 fun p81 =>
  ldS aw p81 fun x89 =>
  cnd (!decide (s76 = x89)) (Q false aw) (nx1 s_0 l_3 at_4 (IntKind.i64.wrap (i_6 + 1)) aw))) (nx1 s_0 l_3 at_4 (IntKind.i64.wrap (i_6 + 1)) aw)) (nx1 s_0 l_3 at_4 (IntKind.i64.wrap (i_6 + 1)) aw))
def S5_1s (Q : Bool → AW → Prop) (E : List PanicEntry → AW → Prop)  (nx1 : ByteArray → Value → Int → Int → AW → Prop) (s_0 : ByteArray) (l_3 : Value) (at_4 : Int) (i_6 : Int) (aw : AW) : Prop :=
  slen l_3 fun n94 =>
  cnd (decide (i_6 < n94)) (ixS l_3 i_6 3 fun p101 =>
  ∃ b110 i111 c113 c114 c115, p101 = .pointer (some ⟨b110, i111, none⟩) ∧ aw.get b110 i111 = some (.int .u8 c113) ∧ aw.get b110 (i111 + 1) = some (.string c114) ∧ aw.get b110 (i111 + 2) = some (.int .i64 c115) ∧ alc aw [.int .u8 0, .string (⟨#[]⟩ : ByteArray), .int .i64 0] 33 0 fun p119 aw120 =>
  st aw120 p119 [.int .u8 c113, .string c114, .int .i64 c115] fun aw123 =>
  cnd (decide (0 < i_6)) (fldA p119 2 fun p131 =>
  ldI .i64 aw123 p131 fun x139 =>
  ixS l_3 (IntKind.i64.wrap (i_6 - 1)) 3 fun p141 =>
  fldA p141 2 fun p150 =>
  ldI .i64 aw123 p150 fun x158 =>
  cnd (decide (x139 ≤ x158)) (S5_2 Q E nx1 s_0 l_3 at_4 i_6 p119 true aw123) (fldA p119 2 fun p161 =>
  ldI .i64 aw123 p161 fun x169 =>
  cnd (decide ((s_0.size : Int) < x169)) (S5_2 Q E nx1 s_0 l_3 at_4 i_6 p119 true aw123) (fldA p119 0 fun p172 =>
  ldI .u8 aw123 p172 fun x180 =>
  slen l_3 fun n182 =>
  S5_2 Q E nx1 s_0 l_3 at_4 i_6 p119 (!((decide (x180 = 0)) == (decide (i_6 = (IntKind.i64.wrap (n182 - 1)))))) aw123))) (fldA p119 2 fun p188 =>
  ldI .i64 aw123 p188 fun x196 =>
  cnd (decide ((s_0.size : Int) < x196)) (S5_2 Q E nx1 s_0 l_3 at_4 i_6 p119 true aw123) (fldA p119 0 fun p199 =>
  ldI .u8 aw123 p199 fun x207 =>
  slen l_3 fun n209 =>
  S5_2 Q E nx1 s_0 l_3 at_4 i_6 p119 (!((decide (x207 = 0)) == (decide (i_6 = (IntKind.i64.wrap (n209 - 1)))))) aw123))) (cnd (decide (at_4 = 0)) (slen l_3 fun n216 =>
  cnd (decide (0 < n216)) (slen l_3 fun n223 =>
  ixS l_3 (IntKind.i64.wrap (n223 - 1)) 3 fun p229 =>
  fldA p229 2 fun p238 =>
  ldI .i64 aw p238 fun x246 =>
  Q (decide (x246 = (s_0.size : Int))) aw) (Q false aw)) (Q false aw))
def S5_1 (Q : Bool → AW → Prop) (E : List PanicEntry → AW → Prop)  : Nat → ByteArray → Value → Int → Int → AW → Prop
  | 0 => fun _ _ _ _ _ => False
  | n + 1 => S5_1s Q E  (S5_1 Q E  n)
def S5_0 (Q : Bool → AW → Prop) (E : List PanicEntry → AW → Prop)  (s_0 : ByteArray) (aw : AW) : Prop :=
  CallP prog 9 [] aw sh9 (fun r248 aw249 =>
  cnd (!r248) (Q false aw249) (CallP prog 10 [.string s_0] aw249 sh10 (fun r251 aw252 =>
  cnd (!decide (r251.2.2 = 0)) (slen r251.1 fun n254 =>
  cnd (decide (n254 = 0)) (cnd (decide (0 ≤ r251.2.1)) (Q (decide (r251.2.1 ≤ (s_0.size : Int))) aw252) (Q false aw252)) (Q false aw252)) (∃ n, S5_1 Q E  n s_0 r251.1 r251.2.1 0 aw252)) E)) E
set_option maxHeartbeats 4000000 in
set_option maxRecDepth 100000 in
theorem S5_2_ok (Q : Bool → AW → Prop) (E : List PanicEntry → AW → Prop) (nx1 : ByteArray → Value → Int → Int → AW → Prop) (L1 : ∀ (ρ : Env) (s_0 : ByteArray) (l_3 : Value) (at_4 : Int) (i_6 : Int) (aw : AW) (h0 : ρ 0 = .string s_0) (h3 : ρ 3 = l_3) (h4 : ρ 4 = .int .i64 at_4) (h6 : ρ 6 = .int .i64 i_6), nx1 s_0 l_3 at_4 i_6 aw → AGo prog 125 [.code C5_25, .inLoop C5_25, .inBlock 0, .code C5_51] ρ [] aw (RR prog f5 125 sh5 Q E)) (ρ : Env) (s_0 : ByteArray) (l_3 : Value) (at_4 : Int) (i_6 : Int) (t_7 : Value) (t_71 : Bool) (aw : AW) (h0 : ρ 0 = .string s_0) (h3 : ρ 3 = l_3) (h4 : ρ 4 = .int .i64 at_4) (h6 : ρ 6 = .int .i64 i_6) (h7 : ρ 7 = t_7) (h71 : ρ 71 = .bool t_71) (H : S5_2 Q E nx1 s_0 l_3 at_4 i_6 t_7 t_71 aw) :
    AGo prog 125 [.code C5_38, .code C5_43, .inBlock 1, .code C5_50, .inLoop C5_25, .inBlock 0, .code C5_51] ρ [] aw (RR prog f5 125 sh5 Q E) := by
  unfold S5_2 at H
  refine ago_condE  E5_38 rfl h71 (fun hb1 => ?_) (fun hb1 => ?_)
  · replace H := cnd_t H hb1
    refine ago_seqE E5_39 ?_
    refine ago_regE E5_40 (l := [0]) rfl ?_
    refine lk (dt := some 2) R5_11_N rfl rfl rfl (opv_assign rfl rfl rfl) ?_
    refine aops_nil ?_
    exact ago_retE E5_41 (r := false) (ares_1 rfl (oneT rfl)) rfl H
  · replace H := cnd_f H hb1
    refine ago_skipE E5_42 ?_
    refine ago_seqE E5_43 ?_
    obtain ⟨b3, i4, p2, hp5, hv6, H⟩ := H
    obtain ⟨b7, i8, x10, hp9, hg11, H⟩ := H
    rcases Bool.eq_false_or_eq_true (!decide (x10 = 5)) with hb12 | hb12
    · replace H := cnd_t H hb12
      obtain ⟨b14, i15, p13, hp16, hv17, H⟩ := H
      obtain ⟨b18, i19, x21, hp20, hg22, H⟩ := H
      rcases Bool.eq_false_or_eq_true (!decide (x21 = 0)) with hb23 | hb23
      · replace H := cnd_t H hb23
        obtain ⟨b25, i26, p24, hp27, hv28, H⟩ := H
        obtain ⟨b29, i30, x32, hp31, hg33, H⟩ := H
        obtain ⟨b35, i36, p34, hp37, hv38, H⟩ := H
        obtain ⟨b39, i40, x42, hp41, hg43, H⟩ := H
        rcases Bool.eq_false_or_eq_true (decide ((IntKind.i64.wrap ((s_0.size : Int) - x32)) < (x42.size : Int))) with hb44 | hb44
        · replace H := cnd_t H hb44
          refine ago_drawE (hs := [0, 1, 2, 3, 4, 5, 6, 7, 8, 9, 10, 11, 12, 13, 14, 15, 16, 17, 18, 19, 20, 21, 22, 23, 24, 25, 26, 27, 28, 29, 30, 31, 32, 33]) (fl := []) (hv := [(0, p2), (1, Value.int .u8 x10), (2, Value.bool (!decide (x10 = 5))), (3, Value.bool (!decide (x10 = 5))), (4, p13), (5, Value.int .u8 x21), (6, Value.bool (!decide (x21 = 0))), (7, Value.bool (!decide (x21 = 0))), (8, Value.bool (!decide (x21 = 0))), (9, Value.string s_0), (10, Value.int .i64 (s_0.size : Int)), (11, p24), (12, Value.int .i64 x32), (13, Value.int .i64 (IntKind.i64.wrap ((s_0.size : Int) - x32))), (14, p34), (15, Value.string x42), (16, Value.int .i64 (x42.size : Int)), (17, Value.bool (decide ((IntKind.i64.wrap ((s_0.size : Int) - x32)) < (x42.size : Int)))), (18, Value.bool (decide ((IntKind.i64.wrap ((s_0.size : Int) - x32)) < (x42.size : Int)))), (19, undef), (20, undef), (21, undef), (22, undef), (23, undef), (24, undef), (25, undef), (26, undef), (27, undef), (28, undef), (29, undef), (30, undef), (31, undef), (32, Value.bool true), (33, Value.bool true)]) E5_44 mixed R5_12_N R5_12_O (by decide) rfl (pv_cons rfl (pv_cons rfl (pv_cons rfl (pv_cons rfl (pv_cons rfl (pv_cons rfl (pv_cons rfl (pv_cons rfl (pv_cons rfl (pv_cons rfl (pv_cons rfl (pv_cons rfl (pv_cons rfl (pv_cons rfl (pv_cons rfl (pv_cons rfl (pv_cons rfl (pv_cons rfl (pv_cons rfl (pv_cons rfl (pv_cons rfl (pv_cons rfl (pv_cons rfl (pv_cons rfl (pv_cons rfl (pv_cons rfl (pv_cons rfl (pv_cons rfl (pv_cons rfl (pv_cons rfl (pv_cons rfl (pv_cons rfl (pv_cons rfl (pv_cons rfl (pv_nil _)))))))))))))))))))))))))))))))))))
            ⟨(hd_v rfl fun ρ hρ => ⟨rfl, ov_fldA rfl rfl underlying33 rfl sz5 (by decide) ((hρ 7 (lmem rfl)).trans h7) hp5 rfl hv6⟩),
            (hd_v rfl fun ρ hρ => ⟨rfl, ov_ldI rfl underlying5 rfl ((hρ 72 (lmem rfl)).trans rfl) hp9 hg11⟩),
            (hd_v rfl fun ρ hρ => ⟨rfl, opv_neI rfl rfl rfl ((hρ 73 (lmem rfl)).trans rfl) rfl⟩),
            (hd_v rfl fun ρ hρ => ⟨rfl, opv_move rfl rfl ((hρ 74 (lmem rfl)).trans rfl)⟩),
            (hd_v rfl fun ρ hρ => ⟨⟨_, rfl, .inl ⟨_, ((hρ 75 (lmem rfl)).trans rfl), gq hb12 rfl⟩⟩, ov_fldA rfl rfl underlying33 rfl sz5 (by decide) ((hρ 7 (lmem rfl)).trans h7) hp16 rfl hv17⟩),
            (hd_v rfl fun ρ hρ => ⟨⟨_, rfl, .inl ⟨_, ((hρ 75 (lmem rfl)).trans rfl), gq hb12 rfl⟩⟩, ov_ldI rfl underlying5 rfl ((hρ 76 (lmem rfl)).trans rfl) hp20 hg22⟩),
            (hd_v rfl fun ρ hρ => ⟨⟨_, rfl, .inl ⟨_, ((hρ 75 (lmem rfl)).trans rfl), gq hb12 rfl⟩⟩, opv_neI rfl rfl rfl ((hρ 77 (lmem rfl)).trans rfl) rfl⟩),
            (hd_v rfl fun ρ hρ => ⟨rfl, ov_pickT rfl rfl rfl rfl ((hρ 75 (lmem rfl)).trans rfl) hb12 ((hρ 78 (lmem rfl)).trans rfl)⟩),
            (hd_v rfl fun ρ hρ => ⟨rfl, opv_move rfl rfl ((hρ 79 (lmem rfl)).trans rfl)⟩),
            (hd_v rfl fun ρ hρ => ⟨⟨_, rfl, .inl ⟨_, ((hρ 80 (lmem rfl)).trans rfl), gq hb23 rfl⟩⟩, opv_move rfl rfl ((hρ 0 (lmem rfl)).trans h0)⟩),
            (hd_v rfl fun ρ hρ => ⟨⟨_, rfl, .inl ⟨_, ((hρ 80 (lmem rfl)).trans rfl), gq hb23 rfl⟩⟩, opv_lenS rfl rfl rfl underlying9 ((hρ 81 (lmem rfl)).trans rfl)⟩),
            (hd_v rfl fun ρ hρ => ⟨⟨_, rfl, .inl ⟨_, ((hρ 80 (lmem rfl)).trans rfl), gq hb23 rfl⟩⟩, ov_fldA rfl rfl underlying33 rfl sz3 (by decide) ((hρ 7 (lmem rfl)).trans h7) hp27 rfl hv28⟩),
            (hd_v rfl fun ρ hρ => ⟨⟨_, rfl, .inl ⟨_, ((hρ 80 (lmem rfl)).trans rfl), gq hb23 rfl⟩⟩, ov_ldI rfl underlying3 rfl ((hρ 83 (lmem rfl)).trans rfl) hp31 hg33⟩),
            (hd_v rfl fun ρ hρ => ⟨⟨_, rfl, .inl ⟨_, ((hρ 80 (lmem rfl)).trans rfl), gq hb23 rfl⟩⟩, opv_sub rfl rfl rfl ((hρ 82 (lmem rfl)).trans rfl) ((hρ 84 (lmem rfl)).trans rfl)⟩),
            (hd_v rfl fun ρ hρ => ⟨⟨_, rfl, .inl ⟨_, ((hρ 80 (lmem rfl)).trans rfl), gq hb23 rfl⟩⟩, ov_fldA rfl rfl underlying33 rfl sz9 (by decide) ((hρ 7 (lmem rfl)).trans h7) hp37 rfl hv38⟩),
            (hd_v rfl fun ρ hρ => ⟨⟨_, rfl, .inl ⟨_, ((hρ 80 (lmem rfl)).trans rfl), gq hb23 rfl⟩⟩, ov_ldS rfl underlying9 rfl ((hρ 86 (lmem rfl)).trans rfl) hp41 hg43⟩),
            (hd_v rfl fun ρ hρ => ⟨⟨_, rfl, .inl ⟨_, ((hρ 80 (lmem rfl)).trans rfl), gq hb23 rfl⟩⟩, opv_lenS rfl rfl rfl underlying9 ((hρ 87 (lmem rfl)).trans rfl)⟩),
            (hd_v rfl fun ρ hρ => ⟨⟨_, rfl, .inl ⟨_, ((hρ 80 (lmem rfl)).trans rfl), gq hb23 rfl⟩⟩, opv_lt rfl rfl rfl ((hρ 85 (lmem rfl)).trans rfl) ((hρ 88 (lmem rfl)).trans rfl)⟩),
            (hd_v rfl fun ρ hρ => ⟨⟨_, rfl, .inl ⟨_, ((hρ 80 (lmem rfl)).trans rfl), gq hb23 rfl⟩⟩, opv_move rfl rfl ((hρ 89 (lmem rfl)).trans rfl)⟩),
            (hd_s rfl (fun ρ hρ => ⟨_, rfl, .inl ⟨_, ((hρ 90 (lmem rfl)).trans rfl), gq hb44 rfl⟩⟩) rfl),
            (hd_s rfl (fun ρ hρ => ⟨_, rfl, .inl ⟨_, ((hρ 90 (lmem rfl)).trans rfl), gq hb44 rfl⟩⟩) rfl),
            (hd_s rfl (fun ρ hρ => ⟨_, rfl, .inl ⟨_, ((hρ 90 (lmem rfl)).trans rfl), gq hb44 rfl⟩⟩) rfl),
            (hd_s rfl (fun ρ hρ => ⟨_, rfl, .inl ⟨_, ((hρ 90 (lmem rfl)).trans rfl), gq hb44 rfl⟩⟩) rfl),
            (hd_s rfl (fun ρ hρ => ⟨_, rfl, .inl ⟨_, ((hρ 90 (lmem rfl)).trans rfl), gq hb44 rfl⟩⟩) rfl),
            (hd_s rfl (fun ρ hρ => ⟨_, rfl, .inl ⟨_, ((hρ 90 (lmem rfl)).trans rfl), gq hb44 rfl⟩⟩) rfl),
            (hd_s rfl (fun ρ hρ => ⟨_, rfl, .inl ⟨_, ((hρ 90 (lmem rfl)).trans rfl), gq hb44 rfl⟩⟩) rfl),
            (hd_s rfl (fun ρ hρ => ⟨_, rfl, .inl ⟨_, ((hρ 90 (lmem rfl)).trans rfl), gq hb44 rfl⟩⟩) rfl),
            (hd_s rfl (fun ρ hρ => ⟨_, rfl, .inl ⟨_, ((hρ 90 (lmem rfl)).trans rfl), gq hb44 rfl⟩⟩) rfl),
            (hd_s rfl (fun ρ hρ => ⟨_, rfl, .inl ⟨_, ((hρ 90 (lmem rfl)).trans rfl), gq hb44 rfl⟩⟩) rfl),
            (hd_s rfl (fun ρ hρ => ⟨_, rfl, .inl ⟨_, ((hρ 90 (lmem rfl)).trans rfl), gq hb44 rfl⟩⟩) rfl),
            (hd_s rfl (fun ρ hρ => ⟨_, rfl, .inl ⟨_, ((hρ 90 (lmem rfl)).trans rfl), gq hb44 rfl⟩⟩) rfl),
            (hd_s rfl (fun ρ hρ => ⟨_, rfl, .inl ⟨_, ((hρ 90 (lmem rfl)).trans rfl), gq hb44 rfl⟩⟩) rfl),
            (hd_v rfl fun ρ hρ => ⟨⟨_, rfl, .inl ⟨_, ((hρ 80 (lmem rfl)).trans rfl), gq hb23 rfl⟩⟩, ov_pickT rfl rfl rfl rfl ((hρ 90 (lmem rfl)).trans rfl) hb44 rfl⟩),
            (hd_v rfl fun ρ hρ => ⟨rfl, ov_pickT rfl rfl rfl rfl ((hρ 80 (lmem rfl)).trans rfl) hb23 ((hρ 104 (lmem rfl)).trans rfl)⟩),
            trivial⟩ ?_
          refine tailAll_cons (hv' := [(0, p2), (1, Value.int .u8 x10), (2, Value.bool (!decide (x10 = 5))), (3, Value.bool (!decide (x10 = 5))), (4, p13), (5, Value.int .u8 x21), (6, Value.bool (!decide (x21 = 0))), (7, Value.bool (!decide (x21 = 0))), (8, Value.bool (!decide (x21 = 0))), (9, Value.string s_0), (10, Value.int .i64 (s_0.size : Int)), (11, p24), (12, Value.int .i64 x32), (13, Value.int .i64 (IntKind.i64.wrap ((s_0.size : Int) - x32))), (14, p34), (15, Value.string x42), (16, Value.int .i64 (x42.size : Int)), (17, Value.bool (decide ((IntKind.i64.wrap ((s_0.size : Int) - x32)) < (x42.size : Int)))), (18, Value.bool (decide ((IntKind.i64.wrap ((s_0.size : Int) - x32)) < (x42.size : Int)))), (19, undef), (20, undef), (21, undef), (22, undef), (23, undef), (24, undef), (25, undef), (26, undef), (27, undef), (28, undef), (29, undef), (30, undef), (31, undef), (32, Value.bool true), (33, Value.bool true)]) rfl (pv_cons rfl (pv_cons rfl (pv_cons rfl (pv_cons rfl (pv_cons rfl (pv_cons rfl (pv_cons rfl (pv_cons rfl (pv_cons rfl (pv_cons rfl (pv_cons rfl (pv_cons rfl (pv_cons rfl (pv_cons rfl (pv_cons rfl (pv_cons rfl (pv_cons rfl (pv_cons rfl (pv_cons rfl (pv_cons rfl (pv_cons rfl (pv_cons rfl (pv_cons rfl (pv_cons rfl (pv_cons rfl (pv_cons rfl (pv_cons rfl (pv_cons rfl (pv_cons rfl (pv_cons rfl (pv_cons rfl (pv_cons rfl (pv_cons rfl (pv_cons rfl (pv_nil _))))))))))))))))))))))))))))))))))) ?_ ?_
          · skip
            refine tail_0 (by decide +kernel) ?_
            refine ago_condE  E5_45 rfl rfl (fun h => ?_) (fun h => tf h)
            refine ago_seqE E5_46 ?_
            refine ago_regE E5_47 (l := [0]) rfl ?_
            refine lk (dt := some 2) R5_13_N rfl rfl rfl (opv_assign rfl rfl rfl) ?_
            refine aops_nil ?_
            exact ago_retE E5_48 (r := false) (ares_1 rfl (oneT rfl)) rfl H
          exact trivial
        · replace H := cnd_f H hb44
          obtain ⟨b47, i48, p46, hp49, hv50, H⟩ := H
          obtain ⟨b51, i52, x54, hp53, hg55, H⟩ := H
          obtain ⟨b57, i58, p56, hp59, hv60, H⟩ := H
          obtain ⟨b61, i62, x64, hp63, hg65, H⟩ := H
          obtain ⟨b67, i68, p66, hp69, hv70, H⟩ := H
          obtain ⟨b71, i72, x74, hp73, hg75, H⟩ := H
          obtain ⟨s76, hq77, hq78, hq79, hq80, H⟩ := H
          obtain ⟨b82, i83, p81, hp84, hv85, H⟩ := H
          obtain ⟨b86, i87, x89, hp88, hg90, H⟩ := H
          refine ago_drawE (hs := [0, 1, 2, 3, 4, 5, 6, 7, 8, 9, 10, 11, 12, 13, 14, 15, 16, 17, 18, 19, 20, 21, 22, 23, 24, 25, 26, 27, 28, 29, 30, 31, 32, 33]) (fl := []) (hv := [(0, p2), (1, Value.int .u8 x10), (2, Value.bool (!decide (x10 = 5))), (3, Value.bool (!decide (x10 = 5))), (4, p13), (5, Value.int .u8 x21), (6, Value.bool (!decide (x21 = 0))), (7, Value.bool (!decide (x21 = 0))), (8, Value.bool (!decide (x21 = 0))), (9, Value.string s_0), (10, Value.int .i64 (s_0.size : Int)), (11, p24), (12, Value.int .i64 x32), (13, Value.int .i64 (IntKind.i64.wrap ((s_0.size : Int) - x32))), (14, p34), (15, Value.string x42), (16, Value.int .i64 (x42.size : Int)), (17, Value.bool (decide ((IntKind.i64.wrap ((s_0.size : Int) - x32)) < (x42.size : Int)))), (18, Value.bool (decide ((IntKind.i64.wrap ((s_0.size : Int) - x32)) < (x42.size : Int)))), (19, Value.string s_0), (20, p46), (21, Value.int .i64 x54), (22, p56), (23, Value.int .i64 x64), (24, p66), (25, Value.string x74), (26, Value.int .i64 (x74.size : Int)), (27, Value.int .i64 (IntKind.i64.wrap (x64 + (x74.size : Int)))), (28, Value.string s76), (29, p81), (30, Value.string x89), (31, Value.bool (!decide (s76 = x89))), (32, Value.bool (!decide (s76 = x89))), (33, Value.bool (!decide (s76 = x89)))]) E5_44 mixed R5_12_N R5_12_O (by decide) rfl (pv_cons rfl (pv_cons rfl (pv_cons rfl (pv_cons rfl (pv_cons rfl (pv_cons rfl (pv_cons rfl (pv_cons rfl (pv_cons rfl (pv_cons rfl (pv_cons rfl (pv_cons rfl (pv_cons rfl (pv_cons rfl (pv_cons rfl (pv_cons rfl (pv_cons rfl (pv_cons rfl (pv_cons rfl (pv_cons rfl (pv_cons rfl (pv_cons rfl (pv_cons rfl (pv_cons rfl (pv_cons rfl (pv_cons rfl (pv_cons rfl (pv_cons rfl (pv_cons rfl (pv_cons rfl (pv_cons rfl (pv_cons rfl (pv_cons rfl (pv_cons rfl (pv_nil _)))))))))))))))))))))))))))))))))))
            ⟨(hd_v rfl fun ρ hρ => ⟨rfl, ov_fldA rfl rfl underlying33 rfl sz5 (by decide) ((hρ 7 (lmem rfl)).trans h7) hp5 rfl hv6⟩),
            (hd_v rfl fun ρ hρ => ⟨rfl, ov_ldI rfl underlying5 rfl ((hρ 72 (lmem rfl)).trans rfl) hp9 hg11⟩),
            (hd_v rfl fun ρ hρ => ⟨rfl, opv_neI rfl rfl rfl ((hρ 73 (lmem rfl)).trans rfl) rfl⟩),
            (hd_v rfl fun ρ hρ => ⟨rfl, opv_move rfl rfl ((hρ 74 (lmem rfl)).trans rfl)⟩),
            (hd_v rfl fun ρ hρ => ⟨⟨_, rfl, .inl ⟨_, ((hρ 75 (lmem rfl)).trans rfl), gq hb12 rfl⟩⟩, ov_fldA rfl rfl underlying33 rfl sz5 (by decide) ((hρ 7 (lmem rfl)).trans h7) hp16 rfl hv17⟩),
            (hd_v rfl fun ρ hρ => ⟨⟨_, rfl, .inl ⟨_, ((hρ 75 (lmem rfl)).trans rfl), gq hb12 rfl⟩⟩, ov_ldI rfl underlying5 rfl ((hρ 76 (lmem rfl)).trans rfl) hp20 hg22⟩),
            (hd_v rfl fun ρ hρ => ⟨⟨_, rfl, .inl ⟨_, ((hρ 75 (lmem rfl)).trans rfl), gq hb12 rfl⟩⟩, opv_neI rfl rfl rfl ((hρ 77 (lmem rfl)).trans rfl) rfl⟩),
            (hd_v rfl fun ρ hρ => ⟨rfl, ov_pickT rfl rfl rfl rfl ((hρ 75 (lmem rfl)).trans rfl) hb12 ((hρ 78 (lmem rfl)).trans rfl)⟩),
            (hd_v rfl fun ρ hρ => ⟨rfl, opv_move rfl rfl ((hρ 79 (lmem rfl)).trans rfl)⟩),
            (hd_v rfl fun ρ hρ => ⟨⟨_, rfl, .inl ⟨_, ((hρ 80 (lmem rfl)).trans rfl), gq hb23 rfl⟩⟩, opv_move rfl rfl ((hρ 0 (lmem rfl)).trans h0)⟩),
            (hd_v rfl fun ρ hρ => ⟨⟨_, rfl, .inl ⟨_, ((hρ 80 (lmem rfl)).trans rfl), gq hb23 rfl⟩⟩, opv_lenS rfl rfl rfl underlying9 ((hρ 81 (lmem rfl)).trans rfl)⟩),
            (hd_v rfl fun ρ hρ => ⟨⟨_, rfl, .inl ⟨_, ((hρ 80 (lmem rfl)).trans rfl), gq hb23 rfl⟩⟩, ov_fldA rfl rfl underlying33 rfl sz3 (by decide) ((hρ 7 (lmem rfl)).trans h7) hp27 rfl hv28⟩),
            (hd_v rfl fun ρ hρ => ⟨⟨_, rfl, .inl ⟨_, ((hρ 80 (lmem rfl)).trans rfl), gq hb23 rfl⟩⟩, ov_ldI rfl underlying3 rfl ((hρ 83 (lmem rfl)).trans rfl) hp31 hg33⟩),
            (hd_v rfl fun ρ hρ => ⟨⟨_, rfl, .inl ⟨_, ((hρ 80 (lmem rfl)).trans rfl), gq hb23 rfl⟩⟩, opv_sub rfl rfl rfl ((hρ 82 (lmem rfl)).trans rfl) ((hρ 84 (lmem rfl)).trans rfl)⟩),
            (hd_v rfl fun ρ hρ => ⟨⟨_, rfl, .inl ⟨_, ((hρ 80 (lmem rfl)).trans rfl), gq hb23 rfl⟩⟩, ov_fldA rfl rfl underlying33 rfl sz9 (by decide) ((hρ 7 (lmem rfl)).trans h7) hp37 rfl hv38⟩),
            (hd_v rfl fun ρ hρ => ⟨⟨_, rfl, .inl ⟨_, ((hρ 80 (lmem rfl)).trans rfl), gq hb23 rfl⟩⟩, ov_ldS rfl underlying9 rfl ((hρ 86 (lmem rfl)).trans rfl) hp41 hg43⟩),
            (hd_v rfl fun ρ hρ => ⟨⟨_, rfl, .inl ⟨_, ((hρ 80 (lmem rfl)).trans rfl), gq hb23 rfl⟩⟩, opv_lenS rfl rfl rfl underlying9 ((hρ 87 (lmem rfl)).trans rfl)⟩),
            (hd_v rfl fun ρ hρ => ⟨⟨_, rfl, .inl ⟨_, ((hρ 80 (lmem rfl)).trans rfl), gq hb23 rfl⟩⟩, opv_lt rfl rfl rfl ((hρ 85 (lmem rfl)).trans rfl) ((hρ 88 (lmem rfl)).trans rfl)⟩),
            (hd_v rfl fun ρ hρ => ⟨⟨_, rfl, .inl ⟨_, ((hρ 80 (lmem rfl)).trans rfl), gq hb23 rfl⟩⟩, opv_move rfl rfl ((hρ 89 (lmem rfl)).trans rfl)⟩),
            (hd_v rfl fun ρ hρ => ⟨⟨_, rfl, .inl ⟨_, ((hρ 90 (lmem rfl)).trans rfl), gq hb44 rfl⟩⟩, opv_move rfl rfl ((hρ 0 (lmem rfl)).trans h0)⟩),
            (hd_v rfl fun ρ hρ => ⟨⟨_, rfl, .inl ⟨_, ((hρ 90 (lmem rfl)).trans rfl), gq hb44 rfl⟩⟩, ov_fldA rfl rfl underlying33 rfl sz3 (by decide) ((hρ 7 (lmem rfl)).trans h7) hp49 rfl hv50⟩),
            (hd_v rfl fun ρ hρ => ⟨⟨_, rfl, .inl ⟨_, ((hρ 90 (lmem rfl)).trans rfl), gq hb44 rfl⟩⟩, ov_ldI rfl underlying3 rfl ((hρ 92 (lmem rfl)).trans rfl) hp53 hg55⟩),
            (hd_v rfl fun ρ hρ => ⟨⟨_, rfl, .inl ⟨_, ((hρ 90 (lmem rfl)).trans rfl), gq hb44 rfl⟩⟩, ov_fldA rfl rfl underlying33 rfl sz3 (by decide) ((hρ 7 (lmem rfl)).trans h7) hp59 rfl hv60⟩),
            (hd_v rfl fun ρ hρ => ⟨⟨_, rfl, .inl ⟨_, ((hρ 90 (lmem rfl)).trans rfl), gq hb44 rfl⟩⟩, ov_ldI rfl underlying3 rfl ((hρ 94 (lmem rfl)).trans rfl) hp63 hg65⟩),
            (hd_v rfl fun ρ hρ => ⟨⟨_, rfl, .inl ⟨_, ((hρ 90 (lmem rfl)).trans rfl), gq hb44 rfl⟩⟩, ov_fldA rfl rfl underlying33 rfl sz9 (by decide) ((hρ 7 (lmem rfl)).trans h7) hp69 rfl hv70⟩),
            (hd_v rfl fun ρ hρ => ⟨⟨_, rfl, .inl ⟨_, ((hρ 90 (lmem rfl)).trans rfl), gq hb44 rfl⟩⟩, ov_ldS rfl underlying9 rfl ((hρ 96 (lmem rfl)).trans rfl) hp73 hg75⟩),
            (hd_v rfl fun ρ hρ => ⟨⟨_, rfl, .inl ⟨_, ((hρ 90 (lmem rfl)).trans rfl), gq hb44 rfl⟩⟩, opv_lenS rfl rfl rfl underlying9 ((hρ 97 (lmem rfl)).trans rfl)⟩),
            (hd_v rfl fun ρ hρ => ⟨⟨_, rfl, .inl ⟨_, ((hρ 90 (lmem rfl)).trans rfl), gq hb44 rfl⟩⟩, opv_add rfl rfl rfl ((hρ 95 (lmem rfl)).trans rfl) ((hρ 98 (lmem rfl)).trans rfl)⟩),
            (hd_v rfl fun ρ hρ => ⟨⟨_, rfl, .inl ⟨_, ((hρ 90 (lmem rfl)).trans rfl), gq hb44 rfl⟩⟩, ov_cutS rfl rfl underlying9 ((hρ 91 (lmem rfl)).trans rfl) (bndS ((hρ 93 (lmem rfl)).trans rfl)) (bndS ((hρ 99 (lmem rfl)).trans rfl)) hq77 hq78 hq79 hq80⟩),
            (hd_v rfl fun ρ hρ => ⟨⟨_, rfl, .inl ⟨_, ((hρ 90 (lmem rfl)).trans rfl), gq hb44 rfl⟩⟩, ov_fldA rfl rfl underlying33 rfl sz9 (by decide) ((hρ 7 (lmem rfl)).trans h7) hp84 rfl hv85⟩),
            (hd_v rfl fun ρ hρ => ⟨⟨_, rfl, .inl ⟨_, ((hρ 90 (lmem rfl)).trans rfl), gq hb44 rfl⟩⟩, ov_ldS rfl underlying9 rfl ((hρ 101 (lmem rfl)).trans rfl) hp88 hg90⟩),
            (hd_v rfl fun ρ hρ => ⟨⟨_, rfl, .inl ⟨_, ((hρ 90 (lmem rfl)).trans rfl), gq hb44 rfl⟩⟩, opv_neS rfl rfl rfl ((hρ 100 (lmem rfl)).trans rfl) ((hρ 102 (lmem rfl)).trans rfl)⟩),
            (hd_v rfl fun ρ hρ => ⟨⟨_, rfl, .inl ⟨_, ((hρ 80 (lmem rfl)).trans rfl), gq hb23 rfl⟩⟩, ov_pickF rfl rfl rfl rfl ((hρ 90 (lmem rfl)).trans rfl) hb44 ((hρ 103 (lmem rfl)).trans rfl)⟩),
            (hd_v rfl fun ρ hρ => ⟨rfl, ov_pickT rfl rfl rfl rfl ((hρ 80 (lmem rfl)).trans rfl) hb23 ((hρ 104 (lmem rfl)).trans rfl)⟩),
            trivial⟩ ?_
          refine tailAll_cons (hv' := [(0, p2), (1, Value.int .u8 x10), (2, Value.bool (!decide (x10 = 5))), (3, Value.bool (!decide (x10 = 5))), (4, p13), (5, Value.int .u8 x21), (6, Value.bool (!decide (x21 = 0))), (7, Value.bool (!decide (x21 = 0))), (8, Value.bool (!decide (x21 = 0))), (9, Value.string s_0), (10, Value.int .i64 (s_0.size : Int)), (11, p24), (12, Value.int .i64 x32), (13, Value.int .i64 (IntKind.i64.wrap ((s_0.size : Int) - x32))), (14, p34), (15, Value.string x42), (16, Value.int .i64 (x42.size : Int)), (17, Value.bool (decide ((IntKind.i64.wrap ((s_0.size : Int) - x32)) < (x42.size : Int)))), (18, Value.bool (decide ((IntKind.i64.wrap ((s_0.size : Int) - x32)) < (x42.size : Int)))), (19, Value.string s_0), (20, p46), (21, Value.int .i64 x54), (22, p56), (23, Value.int .i64 x64), (24, p66), (25, Value.string x74), (26, Value.int .i64 (x74.size : Int)), (27, Value.int .i64 (IntKind.i64.wrap (x64 + (x74.size : Int)))), (28, Value.string s76), (29, p81), (30, Value.string x89), (31, Value.bool (!decide (s76 = x89))), (32, Value.bool (!decide (s76 = x89))), (33, Value.bool (!decide (s76 = x89)))]) rfl (pv_cons rfl (pv_cons rfl (pv_cons rfl (pv_cons rfl (pv_cons rfl (pv_cons rfl (pv_cons rfl (pv_cons rfl (pv_cons rfl (pv_cons rfl (pv_cons rfl (pv_cons rfl (pv_cons rfl (pv_cons rfl (pv_cons rfl (pv_cons rfl (pv_cons rfl (pv_cons rfl (pv_cons rfl (pv_cons rfl (pv_cons rfl (pv_cons rfl (pv_cons rfl (pv_cons rfl (pv_cons rfl (pv_cons rfl (pv_cons rfl (pv_cons rfl (pv_cons rfl (pv_cons rfl (pv_cons rfl (pv_cons rfl (pv_cons rfl (pv_cons rfl (pv_nil _))))))))))))))))))))))))))))))))))) ?_ ?_
          · skip
            refine tail_0 (by decide +kernel) ?_
            refine ago_condE  E5_45 rfl rfl (fun hb91 => ?_) (fun hb91 => ?_)
            · replace H := cnd_t H hb91
              refine ago_seqE E5_46 ?_
              refine ago_regE E5_47 (l := [0]) rfl ?_
              refine lk (dt := some 2) R5_13_N rfl rfl rfl (opv_assign rfl rfl rfl) ?_
              refine aops_nil ?_
              exact ago_retE E5_48 (r := false) (ares_1 rfl (oneT rfl)) rfl H
            · replace H := cnd_f H hb91
              refine ago_skipE E5_49 ?_
              refine ago_inBlock ?_
              refine ago_cut (fun ρ => ρ 0 = .string s_0 ∧ ρ 3 = l_3 ∧ ρ 4 = .int .i64 at_4 ∧ ρ 6 = .int .i64 i_6 ∧ True) ⟨h0, h3, h4, h6, trivial⟩ (fun ρ ⟨h0, h3, h4, h6, _⟩ => ?_)
              refine ago_regE E5_50 (l := [0, 1, 2]) rfl ?_
              refine lk (dt := some 35) R5_8_N rfl rfl rfl (opv_move rfl rfl h6) ?_
              refine lk (dt := some 36) R5_8_N rfl rfl rfl (opv_add rfl rfl rfl rfl rfl) ?_
              refine lk (dt := some 6) R5_8_N rfl rfl rfl (opv_assign rfl rfl rfl) ?_
              refine aops_nil ?_
              refine ago_inLoop ?_
              exact L1 _ s_0 l_3 at_4 (IntKind.i64.wrap (i_6 + 1)) aw h0 h3 h4 rfl H
          exact trivial
      · replace H := cnd_f H hb23
        refine ago_drawE (hs := [0, 1, 2, 3, 4, 5, 6, 7, 8, 9, 10, 11, 12, 13, 14, 15, 16, 17, 18, 19, 20, 21, 22, 23, 24, 25, 26, 27, 28, 29, 30, 31, 32, 33]) (fl := []) (hv := [(0, p2), (1, Value.int .u8 x10), (2, Value.bool (!decide (x10 = 5))), (3, Value.bool (!decide (x10 = 5))), (4, p13), (5, Value.int .u8 x21), (6, Value.bool (!decide (x21 = 0))), (7, Value.bool (!decide (x21 = 0))), (8, Value.bool (!decide (x21 = 0))), (9, undef), (10, undef), (11, undef), (12, undef), (13, undef), (14, undef), (15, undef), (16, undef), (17, undef), (18, undef), (19, undef), (20, undef), (21, undef), (22, undef), (23, undef), (24, undef), (25, undef), (26, undef), (27, undef), (28, undef), (29, undef), (30, undef), (31, undef), (32, undef), (33, Value.bool false)]) E5_44 mixed R5_12_N R5_12_O (by decide) rfl (pv_cons rfl (pv_cons rfl (pv_cons rfl (pv_cons rfl (pv_cons rfl (pv_cons rfl (pv_cons rfl (pv_cons rfl (pv_cons rfl (pv_cons rfl (pv_cons rfl (pv_cons rfl (pv_cons rfl (pv_cons rfl (pv_cons rfl (pv_cons rfl (pv_cons rfl (pv_cons rfl (pv_cons rfl (pv_cons rfl (pv_cons rfl (pv_cons rfl (pv_cons rfl (pv_cons rfl (pv_cons rfl (pv_cons rfl (pv_cons rfl (pv_cons rfl (pv_cons rfl (pv_cons rfl (pv_cons rfl (pv_cons rfl (pv_cons rfl (pv_cons rfl (pv_nil _)))))))))))))))))))))))))))))))))))
          ⟨(hd_v rfl fun ρ hρ => ⟨rfl, ov_fldA rfl rfl underlying33 rfl sz5 (by decide) ((hρ 7 (lmem rfl)).trans h7) hp5 rfl hv6⟩),
          (hd_v rfl fun ρ hρ => ⟨rfl, ov_ldI rfl underlying5 rfl ((hρ 72 (lmem rfl)).trans rfl) hp9 hg11⟩),
          (hd_v rfl fun ρ hρ => ⟨rfl, opv_neI rfl rfl rfl ((hρ 73 (lmem rfl)).trans rfl) rfl⟩),
          (hd_v rfl fun ρ hρ => ⟨rfl, opv_move rfl rfl ((hρ 74 (lmem rfl)).trans rfl)⟩),
          (hd_v rfl fun ρ hρ => ⟨⟨_, rfl, .inl ⟨_, ((hρ 75 (lmem rfl)).trans rfl), gq hb12 rfl⟩⟩, ov_fldA rfl rfl underlying33 rfl sz5 (by decide) ((hρ 7 (lmem rfl)).trans h7) hp16 rfl hv17⟩),
          (hd_v rfl fun ρ hρ => ⟨⟨_, rfl, .inl ⟨_, ((hρ 75 (lmem rfl)).trans rfl), gq hb12 rfl⟩⟩, ov_ldI rfl underlying5 rfl ((hρ 76 (lmem rfl)).trans rfl) hp20 hg22⟩),
          (hd_v rfl fun ρ hρ => ⟨⟨_, rfl, .inl ⟨_, ((hρ 75 (lmem rfl)).trans rfl), gq hb12 rfl⟩⟩, opv_neI rfl rfl rfl ((hρ 77 (lmem rfl)).trans rfl) rfl⟩),
          (hd_v rfl fun ρ hρ => ⟨rfl, ov_pickT rfl rfl rfl rfl ((hρ 75 (lmem rfl)).trans rfl) hb12 ((hρ 78 (lmem rfl)).trans rfl)⟩),
          (hd_v rfl fun ρ hρ => ⟨rfl, opv_move rfl rfl ((hρ 79 (lmem rfl)).trans rfl)⟩),
          (hd_s rfl (fun ρ hρ => ⟨_, rfl, .inl ⟨_, ((hρ 80 (lmem rfl)).trans rfl), gq hb23 rfl⟩⟩) rfl),
          (hd_s rfl (fun ρ hρ => ⟨_, rfl, .inl ⟨_, ((hρ 80 (lmem rfl)).trans rfl), gq hb23 rfl⟩⟩) rfl),
          (hd_s rfl (fun ρ hρ => ⟨_, rfl, .inl ⟨_, ((hρ 80 (lmem rfl)).trans rfl), gq hb23 rfl⟩⟩) rfl),
          (hd_s rfl (fun ρ hρ => ⟨_, rfl, .inl ⟨_, ((hρ 80 (lmem rfl)).trans rfl), gq hb23 rfl⟩⟩) rfl),
          (hd_s rfl (fun ρ hρ => ⟨_, rfl, .inl ⟨_, ((hρ 80 (lmem rfl)).trans rfl), gq hb23 rfl⟩⟩) rfl),
          (hd_s rfl (fun ρ hρ => ⟨_, rfl, .inl ⟨_, ((hρ 80 (lmem rfl)).trans rfl), gq hb23 rfl⟩⟩) rfl),
          (hd_s rfl (fun ρ hρ => ⟨_, rfl, .inl ⟨_, ((hρ 80 (lmem rfl)).trans rfl), gq hb23 rfl⟩⟩) rfl),
          (hd_s rfl (fun ρ hρ => ⟨_, rfl, .inl ⟨_, ((hρ 80 (lmem rfl)).trans rfl), gq hb23 rfl⟩⟩) rfl),
          (hd_s rfl (fun ρ hρ => ⟨_, rfl, .inl ⟨_, ((hρ 80 (lmem rfl)).trans rfl), gq hb23 rfl⟩⟩) rfl),
          (hd_s rfl (fun ρ hρ => ⟨_, rfl, .inl ⟨_, ((hρ 80 (lmem rfl)).trans rfl), gq hb23 rfl⟩⟩) rfl),
          (hd_s rfl (fun ρ hρ => ⟨_, rfl, .inr ⟨((hρ 90 (lmem rfl)).trans rfl), rfl⟩⟩) rfl),
          (hd_s rfl (fun ρ hρ => ⟨_, rfl, .inr ⟨((hρ 90 (lmem rfl)).trans rfl), rfl⟩⟩) rfl),
          (hd_s rfl (fun ρ hρ => ⟨_, rfl, .inr ⟨((hρ 90 (lmem rfl)).trans rfl), rfl⟩⟩) rfl),
          (hd_s rfl (fun ρ hρ => ⟨_, rfl, .inr ⟨((hρ 90 (lmem rfl)).trans rfl), rfl⟩⟩) rfl),
          (hd_s rfl (fun ρ hρ => ⟨_, rfl, .inr ⟨((hρ 90 (lmem rfl)).trans rfl), rfl⟩⟩) rfl),
          (hd_s rfl (fun ρ hρ => ⟨_, rfl, .inr ⟨((hρ 90 (lmem rfl)).trans rfl), rfl⟩⟩) rfl),
          (hd_s rfl (fun ρ hρ => ⟨_, rfl, .inr ⟨((hρ 90 (lmem rfl)).trans rfl), rfl⟩⟩) rfl),
          (hd_s rfl (fun ρ hρ => ⟨_, rfl, .inr ⟨((hρ 90 (lmem rfl)).trans rfl), rfl⟩⟩) rfl),
          (hd_s rfl (fun ρ hρ => ⟨_, rfl, .inr ⟨((hρ 90 (lmem rfl)).trans rfl), rfl⟩⟩) rfl),
          (hd_s rfl (fun ρ hρ => ⟨_, rfl, .inr ⟨((hρ 90 (lmem rfl)).trans rfl), rfl⟩⟩) rfl),
          (hd_s rfl (fun ρ hρ => ⟨_, rfl, .inr ⟨((hρ 90 (lmem rfl)).trans rfl), rfl⟩⟩) rfl),
          (hd_s rfl (fun ρ hρ => ⟨_, rfl, .inr ⟨((hρ 90 (lmem rfl)).trans rfl), rfl⟩⟩) rfl),
          (hd_s rfl (fun ρ hρ => ⟨_, rfl, .inr ⟨((hρ 90 (lmem rfl)).trans rfl), rfl⟩⟩) rfl),
          (hd_s rfl (fun ρ hρ => ⟨_, rfl, .inl ⟨_, ((hρ 80 (lmem rfl)).trans rfl), gq hb23 rfl⟩⟩) rfl),
          (hd_v rfl fun ρ hρ => ⟨rfl, ov_pickF rfl rfl rfl rfl ((hρ 80 (lmem rfl)).trans rfl) hb23 rfl⟩),
          trivial⟩ ?_
        refine tailAll_cons (hv' := [(0, p2), (1, Value.int .u8 x10), (2, Value.bool (!decide (x10 = 5))), (3, Value.bool (!decide (x10 = 5))), (4, p13), (5, Value.int .u8 x21), (6, Value.bool (!decide (x21 = 0))), (7, Value.bool (!decide (x21 = 0))), (8, Value.bool (!decide (x21 = 0))), (9, undef), (10, undef), (11, undef), (12, undef), (13, undef), (14, undef), (15, undef), (16, undef), (17, undef), (18, undef), (19, undef), (20, undef), (21, undef), (22, undef), (23, undef), (24, undef), (25, undef), (26, undef), (27, undef), (28, undef), (29, undef), (30, undef), (31, undef), (32, undef), (33, Value.bool false)]) rfl (pv_cons rfl (pv_cons rfl (pv_cons rfl (pv_cons rfl (pv_cons rfl (pv_cons rfl (pv_cons rfl (pv_cons rfl (pv_cons rfl (pv_cons rfl (pv_cons rfl (pv_cons rfl (pv_cons rfl (pv_cons rfl (pv_cons rfl (pv_cons rfl (pv_cons rfl (pv_cons rfl (pv_cons rfl (pv_cons rfl (pv_cons rfl (pv_cons rfl (pv_cons rfl (pv_cons rfl (pv_cons rfl (pv_cons rfl (pv_cons rfl (pv_cons rfl (pv_cons rfl (pv_cons rfl (pv_cons rfl (pv_cons rfl (pv_cons rfl (pv_cons rfl (pv_nil _))))))))))))))))))))))))))))))))))) ?_ ?_
        · skip
          refine tail_0 (by decide +kernel) ?_
          refine ago_condE  E5_45 rfl rfl (fun h => ft h) (fun h => ?_)
          refine ago_skipE E5_49 ?_
          refine ago_inBlock ?_
          refine ago_cut (fun ρ => ρ 0 = .string s_0 ∧ ρ 3 = l_3 ∧ ρ 4 = .int .i64 at_4 ∧ ρ 6 = .int .i64 i_6 ∧ True) ⟨h0, h3, h4, h6, trivial⟩ (fun ρ ⟨h0, h3, h4, h6, _⟩ => ?_)
          refine ago_regE E5_50 (l := [0, 1, 2]) rfl ?_
          refine lk (dt := some 35) R5_8_N rfl rfl rfl (opv_move rfl rfl h6) ?_
          refine lk (dt := some 36) R5_8_N rfl rfl rfl (opv_add rfl rfl rfl rfl rfl) ?_
          refine lk (dt := some 6) R5_8_N rfl rfl rfl (opv_assign rfl rfl rfl) ?_
          refine aops_nil ?_
          refine ago_inLoop ?_
          exact L1 _ s_0 l_3 at_4 (IntKind.i64.wrap (i_6 + 1)) aw h0 h3 h4 rfl H
        exact trivial
    · replace H := cnd_f H hb12
      refine ago_drawE (hs := [0, 1, 2, 3, 4, 5, 6, 7, 8, 9, 10, 11, 12, 13, 14, 15, 16, 17, 18, 19, 20, 21, 22, 23, 24, 25, 26, 27, 28, 29, 30, 31, 32, 33]) (fl := []) (hv := [(0, p2), (1, Value.int .u8 x10), (2, Value.bool (!decide (x10 = 5))), (3, Value.bool (!decide (x10 = 5))), (4, undef), (5, undef), (6, undef), (7, Value.bool false), (8, Value.bool false), (9, undef), (10, undef), (11, undef), (12, undef), (13, undef), (14, undef), (15, undef), (16, undef), (17, undef), (18, undef), (19, undef), (20, undef), (21, undef), (22, undef), (23, undef), (24, undef), (25, undef), (26, undef), (27, undef), (28, undef), (29, undef), (30, undef), (31, undef), (32, undef), (33, Value.bool false)]) E5_44 mixed R5_12_N R5_12_O (by decide) rfl (pv_cons rfl (pv_cons rfl (pv_cons rfl (pv_cons rfl (pv_cons rfl (pv_cons rfl (pv_cons rfl (pv_cons rfl (pv_cons rfl (pv_cons rfl (pv_cons rfl (pv_cons rfl (pv_cons rfl (pv_cons rfl (pv_cons rfl (pv_cons rfl (pv_cons rfl (pv_cons rfl (pv_cons rfl (pv_cons rfl (pv_cons rfl (pv_cons rfl (pv_cons rfl (pv_cons rfl (pv_cons rfl (pv_cons rfl (pv_cons rfl (pv_cons rfl (pv_cons rfl (pv_cons rfl (pv_cons rfl (pv_cons rfl (pv_cons rfl (pv_cons rfl (pv_nil _)))))))))))))))))))))))))))))))))))
        ⟨(hd_v rfl fun ρ hρ => ⟨rfl, ov_fldA rfl rfl underlying33 rfl sz5 (by decide) ((hρ 7 (lmem rfl)).trans h7) hp5 rfl hv6⟩),
        (hd_v rfl fun ρ hρ => ⟨rfl, ov_ldI rfl underlying5 rfl ((hρ 72 (lmem rfl)).trans rfl) hp9 hg11⟩),
        (hd_v rfl fun ρ hρ => ⟨rfl, opv_neI rfl rfl rfl ((hρ 73 (lmem rfl)).trans rfl) rfl⟩),
        (hd_v rfl fun ρ hρ => ⟨rfl, opv_move rfl rfl ((hρ 74 (lmem rfl)).trans rfl)⟩),
        (hd_s rfl (fun ρ hρ => ⟨_, rfl, .inl ⟨_, ((hρ 75 (lmem rfl)).trans rfl), gq hb12 rfl⟩⟩) rfl),
        (hd_s rfl (fun ρ hρ => ⟨_, rfl, .inl ⟨_, ((hρ 75 (lmem rfl)).trans rfl), gq hb12 rfl⟩⟩) rfl),
        (hd_s rfl (fun ρ hρ => ⟨_, rfl, .inl ⟨_, ((hρ 75 (lmem rfl)).trans rfl), gq hb12 rfl⟩⟩) rfl),
        (hd_v rfl fun ρ hρ => ⟨rfl, ov_pickF rfl rfl rfl rfl ((hρ 75 (lmem rfl)).trans rfl) hb12 rfl⟩),
        (hd_v rfl fun ρ hρ => ⟨rfl, opv_move rfl rfl ((hρ 79 (lmem rfl)).trans rfl)⟩),
        (hd_s rfl (fun ρ hρ => ⟨_, rfl, .inl ⟨_, ((hρ 80 (lmem rfl)).trans rfl), gq rfl rfl⟩⟩) rfl),
        (hd_s rfl (fun ρ hρ => ⟨_, rfl, .inl ⟨_, ((hρ 80 (lmem rfl)).trans rfl), gq rfl rfl⟩⟩) rfl),
        (hd_s rfl (fun ρ hρ => ⟨_, rfl, .inl ⟨_, ((hρ 80 (lmem rfl)).trans rfl), gq rfl rfl⟩⟩) rfl),
        (hd_s rfl (fun ρ hρ => ⟨_, rfl, .inl ⟨_, ((hρ 80 (lmem rfl)).trans rfl), gq rfl rfl⟩⟩) rfl),
        (hd_s rfl (fun ρ hρ => ⟨_, rfl, .inl ⟨_, ((hρ 80 (lmem rfl)).trans rfl), gq rfl rfl⟩⟩) rfl),
        (hd_s rfl (fun ρ hρ => ⟨_, rfl, .inl ⟨_, ((hρ 80 (lmem rfl)).trans rfl), gq rfl rfl⟩⟩) rfl),
        (hd_s rfl (fun ρ hρ => ⟨_, rfl, .inl ⟨_, ((hρ 80 (lmem rfl)).trans rfl), gq rfl rfl⟩⟩) rfl),
        (hd_s rfl (fun ρ hρ => ⟨_, rfl, .inl ⟨_, ((hρ 80 (lmem rfl)).trans rfl), gq rfl rfl⟩⟩) rfl),
        (hd_s rfl (fun ρ hρ => ⟨_, rfl, .inl ⟨_, ((hρ 80 (lmem rfl)).trans rfl), gq rfl rfl⟩⟩) rfl),
        (hd_s rfl (fun ρ hρ => ⟨_, rfl, .inl ⟨_, ((hρ 80 (lmem rfl)).trans rfl), gq rfl rfl⟩⟩) rfl),
        (hd_s rfl (fun ρ hρ => ⟨_, rfl, .inr ⟨((hρ 90 (lmem rfl)).trans rfl), rfl⟩⟩) rfl),
        (hd_s rfl (fun ρ hρ => ⟨_, rfl, .inr ⟨((hρ 90 (lmem rfl)).trans rfl), rfl⟩⟩) rfl),
        (hd_s rfl (fun ρ hρ => ⟨_, rfl, .inr ⟨((hρ 90 (lmem rfl)).trans rfl), rfl⟩⟩) rfl),
        (hd_s rfl (fun ρ hρ => ⟨_, rfl, .inr ⟨((hρ 90 (lmem rfl)).trans rfl), rfl⟩⟩) rfl),
        (hd_s rfl (fun ρ hρ => ⟨_, rfl, .inr ⟨((hρ 90 (lmem rfl)).trans rfl), rfl⟩⟩) rfl),
        (hd_s rfl (fun ρ hρ => ⟨_, rfl, .inr ⟨((hρ 90 (lmem rfl)).trans rfl), rfl⟩⟩) rfl),
        (hd_s rfl (fun ρ hρ => ⟨_, rfl, .inr ⟨((hρ 90 (lmem rfl)).trans rfl), rfl⟩⟩) rfl),
        (hd_s rfl (fun ρ hρ => ⟨_, rfl, .inr ⟨((hρ 90 (lmem rfl)).trans rfl), rfl⟩⟩) rfl),
        (hd_s rfl (fun ρ hρ => ⟨_, rfl, .inr ⟨((hρ 90 (lmem rfl)).trans rfl), rfl⟩⟩) rfl),
        (hd_s rfl (fun ρ hρ => ⟨_, rfl, .inr ⟨((hρ 90 (lmem rfl)).trans rfl), rfl⟩⟩) rfl),
        (hd_s rfl (fun ρ hρ => ⟨_, rfl, .inr ⟨((hρ 90 (lmem rfl)).trans rfl), rfl⟩⟩) rfl),
        (hd_s rfl (fun ρ hρ => ⟨_, rfl, .inr ⟨((hρ 90 (lmem rfl)).trans rfl), rfl⟩⟩) rfl),
        (hd_s rfl (fun ρ hρ => ⟨_, rfl, .inr ⟨((hρ 90 (lmem rfl)).trans rfl), rfl⟩⟩) rfl),
        (hd_s rfl (fun ρ hρ => ⟨_, rfl, .inl ⟨_, ((hρ 80 (lmem rfl)).trans rfl), gq rfl rfl⟩⟩) rfl),
        (hd_v rfl fun ρ hρ => ⟨rfl, ov_pickF rfl rfl rfl rfl ((hρ 80 (lmem rfl)).trans rfl) rfl rfl⟩),
        trivial⟩ ?_
      refine tailAll_cons (hv' := [(0, p2), (1, Value.int .u8 x10), (2, Value.bool (!decide (x10 = 5))), (3, Value.bool (!decide (x10 = 5))), (4, undef), (5, undef), (6, undef), (7, Value.bool false), (8, Value.bool false), (9, undef), (10, undef), (11, undef), (12, undef), (13, undef), (14, undef), (15, undef), (16, undef), (17, undef), (18, undef), (19, undef), (20, undef), (21, undef), (22, undef), (23, undef), (24, undef), (25, undef), (26, undef), (27, undef), (28, undef), (29, undef), (30, undef), (31, undef), (32, undef), (33, Value.bool false)]) rfl (pv_cons rfl (pv_cons rfl (pv_cons rfl (pv_cons rfl (pv_cons rfl (pv_cons rfl (pv_cons rfl (pv_cons rfl (pv_cons rfl (pv_cons rfl (pv_cons rfl (pv_cons rfl (pv_cons rfl (pv_cons rfl (pv_cons rfl (pv_cons rfl (pv_cons rfl (pv_cons rfl (pv_cons rfl (pv_cons rfl (pv_cons rfl (pv_cons rfl (pv_cons rfl (pv_cons rfl (pv_cons rfl (pv_cons rfl (pv_cons rfl (pv_cons rfl (pv_cons rfl (pv_cons rfl (pv_cons rfl (pv_cons rfl (pv_cons rfl (pv_cons rfl (pv_nil _))))))))))))))))))))))))))))))))))) ?_ ?_
      · skip
        refine tail_0 (by decide +kernel) ?_
        refine ago_condE  E5_45 rfl rfl (fun h => ft h) (fun h => ?_)
        refine ago_skipE E5_49 ?_
        refine ago_inBlock ?_
        refine ago_cut (fun ρ => ρ 0 = .string s_0 ∧ ρ 3 = l_3 ∧ ρ 4 = .int .i64 at_4 ∧ ρ 6 = .int .i64 i_6 ∧ True) ⟨h0, h3, h4, h6, trivial⟩ (fun ρ ⟨h0, h3, h4, h6, _⟩ => ?_)
        refine ago_regE E5_50 (l := [0, 1, 2]) rfl ?_
        refine lk (dt := some 35) R5_8_N rfl rfl rfl (opv_move rfl rfl h6) ?_
        refine lk (dt := some 36) R5_8_N rfl rfl rfl (opv_add rfl rfl rfl rfl rfl) ?_
        refine lk (dt := some 6) R5_8_N rfl rfl rfl (opv_assign rfl rfl rfl) ?_
        refine aops_nil ?_
        refine ago_inLoop ?_
        exact L1 _ s_0 l_3 at_4 (IntKind.i64.wrap (i_6 + 1)) aw h0 h3 h4 rfl H
      exact trivial
set_option maxHeartbeats 4000000 in
set_option maxRecDepth 100000 in
theorem S5_1s_ok (Q : Bool → AW → Prop) (E : List PanicEntry → AW → Prop)  (nx1 : ByteArray → Value → Int → Int → AW → Prop) (L1 : ∀ (ρ : Env) (s_0 : ByteArray) (l_3 : Value) (at_4 : Int) (i_6 : Int) (aw : AW) (h0 : ρ 0 = .string s_0) (h3 : ρ 3 = l_3) (h4 : ρ 4 = .int .i64 at_4) (h6 : ρ 6 = .int .i64 i_6), nx1 s_0 l_3 at_4 i_6 aw → AGo prog 125 [.code C5_25, .inLoop C5_25, .inBlock 0, .code C5_51] ρ [] aw (RR prog f5 125 sh5 Q E)) (ρ : Env) (s_0 : ByteArray) (l_3 : Value) (at_4 : Int) (i_6 : Int) (aw : AW) (h0 : ρ 0 = .string s_0) (h3 : ρ 3 = l_3) (h4 : ρ 4 = .int .i64 at_4) (h6 : ρ 6 = .int .i64 i_6) (H : S5_1s Q E  nx1 s_0 l_3 at_4 i_6 aw) :
    AGo prog 125 [.code C5_25, .inLoop C5_25, .inBlock 0, .code C5_51] ρ [] aw (RR prog f5 125 sh5 Q E) := by
  unfold S5_1s at H
  refine ago_seqE E5_25 ?_
  refine ago_seqE E5_26 ?_
  refine ago_regE E5_27 (l := [0, 1, 2, 3]) rfl ?_
  refine lk (dt := some 31) R5_7_N rfl rfl rfl (opv_move rfl rfl h6) ?_
  refine lk (dt := some 32) R5_7_N rfl rfl rfl (opv_move rfl rfl h3) ?_
  obtain ⟨q95, l96, c97, n94, hv98, hn99, H⟩ := H
  refine lk (dt := some 33) R5_7_N rfl rfl rfl (ov_len rfl rfl rfl underlying23 rfl hv98 hn99) ?_
  refine lk (dt := some 34) R5_7_N rfl rfl rfl (opv_lt rfl rfl rfl rfl rfl) ?_
  refine aops_nil ?_
  refine ago_condE  E5_28 rfl rfl (fun hb100 => ?_) (fun hb100 => ?_)
  · replace H := cnd_t H hb100
    refine ago_skipE E5_29 ?_
    refine ago_seqE E5_31 ?_
    refine ago_blockE E5_32 ?_
    refine ago_seqE E5_33 ?_
    refine ago_regE E5_34 (l := [0, 1, 2, 3, 4, 5]) rfl ?_
    refine lk (dt := some 37) R5_9_N rfl rfl rfl (opv_move rfl rfl h3) ?_
    refine lk (dt := some 38) R5_9_N rfl rfl rfl (opv_move rfl rfl h6) ?_
    obtain ⟨b102, i103, l104, c105, p101, hp106, h0107, hj108, hv109, H⟩ := H
    refine lk (dt := some 39) R5_9_N rfl rfl rfl (ov_ixS rfl rfl rfl underlying23 sz33 rfl rfl hp106 h0107 hj108 hv109) ?_
    obtain ⟨b110, i111, c113, c114, c115, hp112, hg116, hg117, hg118, H⟩ := H
    refine lk (dt := some 40) R5_9_N rfl rfl rfl (ov_ldN rfl underlying33 rfl sz33 rfl rfl hp112 (getN_cons hg116 (getN_cons hg117 (getN_cons hg118 getN_nil)))) ?_
    obtain ⟨p119, aw120, hp121, ha122, H⟩ := H
    refine lk (dt := some 7) R5_9_N rfl rfl rfl (ov_alloc rfl z33 rfl rfl hp121 ha122) ?_
    obtain ⟨b124, i125, aw123, hp126, hw127, ho128, ha129, H⟩ := H
    refine lk (dt := none) R5_9_N rfl rfl rfl (ov_st rfl rfl rfl rfl rfl rfl sz33 hp126 hw127 ho128 ha129) ?_
    refine aops_nil ?_
    refine ago_seqE E5_35 ?_
    refine ago_seqE E5_36 ?_
    rcases Bool.eq_false_or_eq_true (decide (0 < i_6)) with hb130 | hb130
    · replace H := cnd_t H hb130
      obtain ⟨b132, i133, p131, hp134, hv135, H⟩ := H
      obtain ⟨b136, i137, x139, hp138, hg140, H⟩ := H
      obtain ⟨b142, i143, l144, c145, p141, hp146, h0147, hj148, hv149, H⟩ := H
      obtain ⟨b151, i152, p150, hp153, hv154, H⟩ := H
      obtain ⟨b155, i156, x158, hp157, hg159, H⟩ := H
      rcases Bool.eq_false_or_eq_true (decide (x139 ≤ x158)) with hb160 | hb160
      · replace H := cnd_t H hb160
        refine ago_drawE (hs := [0, 1, 2, 3, 4, 5, 6, 7, 8, 9, 10, 11, 12, 13, 14, 15, 16, 17, 18, 19, 20, 21, 22, 23, 24, 25, 26, 27, 28, 29, 30]) (fl := []) (hv := [(0, Value.int .i64 i_6), (1, Value.bool (decide (0 < i_6))), (2, Value.bool (decide (0 < i_6))), (3, p131), (4, Value.int .i64 x139), (5, l_3), (6, Value.int .i64 i_6), (7, Value.int .i64 (IntKind.i64.wrap (i_6 - 1))), (8, p141), (9, p150), (10, Value.int .i64 x158), (11, Value.bool (decide (x139 ≤ x158))), (12, Value.bool (decide (x139 ≤ x158))), (13, Value.bool (decide (x139 ≤ x158))), (14, undef), (15, undef), (16, undef), (17, undef), (18, undef), (19, Value.bool true), (20, Value.bool true), (21, undef), (22, undef), (23, undef), (24, undef), (25, undef), (26, undef), (27, undef), (28, undef), (29, undef), (30, Value.bool true)]) E5_37 mixed R5_10_N R5_10_O (by decide) rfl (pv_cons rfl (pv_cons rfl (pv_cons rfl (pv_cons rfl (pv_cons rfl (pv_cons rfl (pv_cons rfl (pv_cons rfl (pv_cons rfl (pv_cons rfl (pv_cons rfl (pv_cons rfl (pv_cons rfl (pv_cons rfl (pv_cons rfl (pv_cons rfl (pv_cons rfl (pv_cons rfl (pv_cons rfl (pv_cons rfl (pv_cons rfl (pv_cons rfl (pv_cons rfl (pv_cons rfl (pv_cons rfl (pv_cons rfl (pv_cons rfl (pv_cons rfl (pv_cons rfl (pv_cons rfl (pv_cons rfl (pv_nil _))))))))))))))))))))))))))))))))
          ⟨(hd_v rfl fun ρ hρ => ⟨rfl, opv_move rfl rfl ((hρ 6 (lmem rfl)).trans h6)⟩),
          (hd_v rfl fun ρ hρ => ⟨rfl, opv_gt rfl rfl rfl ((hρ 41 (lmem rfl)).trans rfl) rfl⟩),
          (hd_v rfl fun ρ hρ => ⟨rfl, opv_move rfl rfl ((hρ 42 (lmem rfl)).trans rfl)⟩),
          (hd_v rfl fun ρ hρ => ⟨⟨_, rfl, .inl ⟨_, ((hρ 43 (lmem rfl)).trans rfl), gq hb130 rfl⟩⟩, ov_fldA rfl rfl underlying33 rfl sz3 (by decide) ((hρ 7 (lmem rfl)).trans rfl) hp134 rfl hv135⟩),
          (hd_v rfl fun ρ hρ => ⟨⟨_, rfl, .inl ⟨_, ((hρ 43 (lmem rfl)).trans rfl), gq hb130 rfl⟩⟩, ov_ldI rfl underlying3 rfl ((hρ 44 (lmem rfl)).trans rfl) hp138 hg140⟩),
          (hd_v rfl fun ρ hρ => ⟨⟨_, rfl, .inl ⟨_, ((hρ 43 (lmem rfl)).trans rfl), gq hb130 rfl⟩⟩, opv_move rfl rfl ((hρ 3 (lmem rfl)).trans h3)⟩),
          (hd_v rfl fun ρ hρ => ⟨⟨_, rfl, .inl ⟨_, ((hρ 43 (lmem rfl)).trans rfl), gq hb130 rfl⟩⟩, opv_move rfl rfl ((hρ 6 (lmem rfl)).trans h6)⟩),
          (hd_v rfl fun ρ hρ => ⟨⟨_, rfl, .inl ⟨_, ((hρ 43 (lmem rfl)).trans rfl), gq hb130 rfl⟩⟩, opv_sub rfl rfl rfl ((hρ 47 (lmem rfl)).trans rfl) rfl⟩),
          (hd_v rfl fun ρ hρ => ⟨⟨_, rfl, .inl ⟨_, ((hρ 43 (lmem rfl)).trans rfl), gq hb130 rfl⟩⟩, ov_ixS rfl rfl rfl underlying23 sz33 ((hρ 46 (lmem rfl)).trans rfl) ((hρ 48 (lmem rfl)).trans rfl) hp146 h0147 hj148 hv149⟩),
          (hd_v rfl fun ρ hρ => ⟨⟨_, rfl, .inl ⟨_, ((hρ 43 (lmem rfl)).trans rfl), gq hb130 rfl⟩⟩, ov_fldA rfl rfl underlying33 rfl sz3 (by decide) ((hρ 49 (lmem rfl)).trans rfl) hp153 rfl hv154⟩),
          (hd_v rfl fun ρ hρ => ⟨⟨_, rfl, .inl ⟨_, ((hρ 43 (lmem rfl)).trans rfl), gq hb130 rfl⟩⟩, ov_ldI rfl underlying3 rfl ((hρ 50 (lmem rfl)).trans rfl) hp157 hg159⟩),
          (hd_v rfl fun ρ hρ => ⟨⟨_, rfl, .inl ⟨_, ((hρ 43 (lmem rfl)).trans rfl), gq hb130 rfl⟩⟩, opv_le rfl rfl rfl ((hρ 45 (lmem rfl)).trans rfl) ((hρ 51 (lmem rfl)).trans rfl)⟩),
          (hd_v rfl fun ρ hρ => ⟨rfl, ov_pickT rfl rfl rfl rfl ((hρ 43 (lmem rfl)).trans rfl) hb130 ((hρ 52 (lmem rfl)).trans rfl)⟩),
          (hd_v rfl fun ρ hρ => ⟨rfl, opv_move rfl rfl ((hρ 53 (lmem rfl)).trans rfl)⟩),
          (hd_s rfl (fun ρ hρ => ⟨_, rfl, .inl ⟨_, ((hρ 54 (lmem rfl)).trans rfl), gq hb160 rfl⟩⟩) rfl),
          (hd_s rfl (fun ρ hρ => ⟨_, rfl, .inl ⟨_, ((hρ 54 (lmem rfl)).trans rfl), gq hb160 rfl⟩⟩) rfl),
          (hd_s rfl (fun ρ hρ => ⟨_, rfl, .inl ⟨_, ((hρ 54 (lmem rfl)).trans rfl), gq hb160 rfl⟩⟩) rfl),
          (hd_s rfl (fun ρ hρ => ⟨_, rfl, .inl ⟨_, ((hρ 54 (lmem rfl)).trans rfl), gq hb160 rfl⟩⟩) rfl),
          (hd_s rfl (fun ρ hρ => ⟨_, rfl, .inl ⟨_, ((hρ 54 (lmem rfl)).trans rfl), gq hb160 rfl⟩⟩) rfl),
          (hd_v rfl fun ρ hρ => ⟨rfl, ov_pickT rfl rfl rfl rfl ((hρ 54 (lmem rfl)).trans rfl) hb160 rfl⟩),
          (hd_v rfl fun ρ hρ => ⟨rfl, opv_move rfl rfl ((hρ 60 (lmem rfl)).trans rfl)⟩),
          (hd_s rfl (fun ρ hρ => ⟨_, rfl, .inl ⟨_, ((hρ 61 (lmem rfl)).trans rfl), gq rfl rfl⟩⟩) rfl),
          (hd_s rfl (fun ρ hρ => ⟨_, rfl, .inl ⟨_, ((hρ 61 (lmem rfl)).trans rfl), gq rfl rfl⟩⟩) rfl),
          (hd_s rfl (fun ρ hρ => ⟨_, rfl, .inl ⟨_, ((hρ 61 (lmem rfl)).trans rfl), gq rfl rfl⟩⟩) rfl),
          (hd_s rfl (fun ρ hρ => ⟨_, rfl, .inl ⟨_, ((hρ 61 (lmem rfl)).trans rfl), gq rfl rfl⟩⟩) rfl),
          (hd_s rfl (fun ρ hρ => ⟨_, rfl, .inl ⟨_, ((hρ 61 (lmem rfl)).trans rfl), gq rfl rfl⟩⟩) rfl),
          (hd_s rfl (fun ρ hρ => ⟨_, rfl, .inl ⟨_, ((hρ 61 (lmem rfl)).trans rfl), gq rfl rfl⟩⟩) rfl),
          (hd_s rfl (fun ρ hρ => ⟨_, rfl, .inl ⟨_, ((hρ 61 (lmem rfl)).trans rfl), gq rfl rfl⟩⟩) rfl),
          (hd_s rfl (fun ρ hρ => ⟨_, rfl, .inl ⟨_, ((hρ 61 (lmem rfl)).trans rfl), gq rfl rfl⟩⟩) rfl),
          (hd_s rfl (fun ρ hρ => ⟨_, rfl, .inl ⟨_, ((hρ 61 (lmem rfl)).trans rfl), gq rfl rfl⟩⟩) rfl),
          (hd_v rfl fun ρ hρ => ⟨rfl, ov_pickT rfl rfl rfl rfl ((hρ 61 (lmem rfl)).trans rfl) rfl rfl⟩),
          trivial⟩ ?_
        refine tailAll_cons (hv' := [(0, Value.int .i64 i_6), (1, Value.bool (decide (0 < i_6))), (2, Value.bool (decide (0 < i_6))), (3, p131), (4, Value.int .i64 x139), (5, l_3), (6, Value.int .i64 i_6), (7, Value.int .i64 (IntKind.i64.wrap (i_6 - 1))), (8, p141), (9, p150), (10, Value.int .i64 x158), (11, Value.bool (decide (x139 ≤ x158))), (12, Value.bool (decide (x139 ≤ x158))), (13, Value.bool (decide (x139 ≤ x158))), (14, undef), (15, undef), (16, undef), (17, undef), (18, undef), (19, Value.bool true), (20, Value.bool true), (21, undef), (22, undef), (23, undef), (24, undef), (25, undef), (26, undef), (27, undef), (28, undef), (29, undef), (30, Value.bool true)]) rfl (pv_cons rfl (pv_cons rfl (pv_cons rfl (pv_cons rfl (pv_cons rfl (pv_cons rfl (pv_cons rfl (pv_cons rfl (pv_cons rfl (pv_cons rfl (pv_cons rfl (pv_cons rfl (pv_cons rfl (pv_cons rfl (pv_cons rfl (pv_cons rfl (pv_cons rfl (pv_cons rfl (pv_cons rfl (pv_cons rfl (pv_cons rfl (pv_cons rfl (pv_cons rfl (pv_cons rfl (pv_cons rfl (pv_cons rfl (pv_cons rfl (pv_cons rfl (pv_cons rfl (pv_cons rfl (pv_cons rfl (pv_nil _)))))))))))))))))))))))))))))))) ?_ ?_
        · skip
          refine tail_0 (by decide +kernel) ?_
          exact S5_2_ok Q E nx1 L1 _ s_0 l_3 at_4 i_6 p119 true aw123 h0 h3 h4 h6 rfl rfl H
        exact trivial
      · replace H := cnd_f H hb160
        obtain ⟨b162, i163, p161, hp164, hv165, H⟩ := H
        obtain ⟨b166, i167, x169, hp168, hg170, H⟩ := H
        rcases Bool.eq_false_or_eq_true (decide ((s_0.size : Int) < x169)) with hb171 | hb171
        · replace H := cnd_t H hb171
          refine ago_drawE (hs := [0, 1, 2, 3, 4, 5, 6, 7, 8, 9, 10, 11, 12, 13, 14, 15, 16, 17, 18, 19, 20, 21, 22, 23, 24, 25, 26, 27, 28, 29, 30]) (fl := []) (hv := [(0, Value.int .i64 i_6), (1, Value.bool (decide (0 < i_6))), (2, Value.bool (decide (0 < i_6))), (3, p131), (4, Value.int .i64 x139), (5, l_3), (6, Value.int .i64 i_6), (7, Value.int .i64 (IntKind.i64.wrap (i_6 - 1))), (8, p141), (9, p150), (10, Value.int .i64 x158), (11, Value.bool (decide (x139 ≤ x158))), (12, Value.bool (decide (x139 ≤ x158))), (13, Value.bool (decide (x139 ≤ x158))), (14, p161), (15, Value.int .i64 x169), (16, Value.string s_0), (17, Value.int .i64 (s_0.size : Int)), (18, Value.bool (decide ((s_0.size : Int) < x169))), (19, Value.bool (decide ((s_0.size : Int) < x169))), (20, Value.bool (decide ((s_0.size : Int) < x169))), (21, undef), (22, undef), (23, undef), (24, undef), (25, undef), (26, undef), (27, undef), (28, undef), (29, undef), (30, Value.bool true)]) E5_37 mixed R5_10_N R5_10_O (by decide) rfl (pv_cons rfl (pv_cons rfl (pv_cons rfl (pv_cons rfl (pv_cons rfl (pv_cons rfl (pv_cons rfl (pv_cons rfl (pv_cons rfl (pv_cons rfl (pv_cons rfl (pv_cons rfl (pv_cons rfl (pv_cons rfl (pv_cons rfl (pv_cons rfl (pv_cons rfl (pv_cons rfl (pv_cons rfl (pv_cons rfl (pv_cons rfl (pv_cons rfl (pv_cons rfl (pv_cons rfl (pv_cons rfl (pv_cons rfl (pv_cons rfl (pv_cons rfl (pv_cons rfl (pv_cons rfl (pv_cons rfl (pv_nil _))))))))))))))))))))))))))))))))
            ⟨(hd_v rfl fun ρ hρ => ⟨rfl, opv_move rfl rfl ((hρ 6 (lmem rfl)).trans h6)⟩),
            (hd_v rfl fun ρ hρ => ⟨rfl, opv_gt rfl rfl rfl ((hρ 41 (lmem rfl)).trans rfl) rfl⟩),
            (hd_v rfl fun ρ hρ => ⟨rfl, opv_move rfl rfl ((hρ 42 (lmem rfl)).trans rfl)⟩),
            (hd_v rfl fun ρ hρ => ⟨⟨_, rfl, .inl ⟨_, ((hρ 43 (lmem rfl)).trans rfl), gq hb130 rfl⟩⟩, ov_fldA rfl rfl underlying33 rfl sz3 (by decide) ((hρ 7 (lmem rfl)).trans rfl) hp134 rfl hv135⟩),
            (hd_v rfl fun ρ hρ => ⟨⟨_, rfl, .inl ⟨_, ((hρ 43 (lmem rfl)).trans rfl), gq hb130 rfl⟩⟩, ov_ldI rfl underlying3 rfl ((hρ 44 (lmem rfl)).trans rfl) hp138 hg140⟩),
            (hd_v rfl fun ρ hρ => ⟨⟨_, rfl, .inl ⟨_, ((hρ 43 (lmem rfl)).trans rfl), gq hb130 rfl⟩⟩, opv_move rfl rfl ((hρ 3 (lmem rfl)).trans h3)⟩),
            (hd_v rfl fun ρ hρ => ⟨⟨_, rfl, .inl ⟨_, ((hρ 43 (lmem rfl)).trans rfl), gq hb130 rfl⟩⟩, opv_move rfl rfl ((hρ 6 (lmem rfl)).trans h6)⟩),
            (hd_v rfl fun ρ hρ => ⟨⟨_, rfl, .inl ⟨_, ((hρ 43 (lmem rfl)).trans rfl), gq hb130 rfl⟩⟩, opv_sub rfl rfl rfl ((hρ 47 (lmem rfl)).trans rfl) rfl⟩),
            (hd_v rfl fun ρ hρ => ⟨⟨_, rfl, .inl ⟨_, ((hρ 43 (lmem rfl)).trans rfl), gq hb130 rfl⟩⟩, ov_ixS rfl rfl rfl underlying23 sz33 ((hρ 46 (lmem rfl)).trans rfl) ((hρ 48 (lmem rfl)).trans rfl) hp146 h0147 hj148 hv149⟩),
            (hd_v rfl fun ρ hρ => ⟨⟨_, rfl, .inl ⟨_, ((hρ 43 (lmem rfl)).trans rfl), gq hb130 rfl⟩⟩, ov_fldA rfl rfl underlying33 rfl sz3 (by decide) ((hρ 49 (lmem rfl)).trans rfl) hp153 rfl hv154⟩),
            (hd_v rfl fun ρ hρ => ⟨⟨_, rfl, .inl ⟨_, ((hρ 43 (lmem rfl)).trans rfl), gq hb130 rfl⟩⟩, ov_ldI rfl underlying3 rfl ((hρ 50 (lmem rfl)).trans rfl) hp157 hg159⟩),
            (hd_v rfl fun ρ hρ => ⟨⟨_, rfl, .inl ⟨_, ((hρ 43 (lmem rfl)).trans rfl), gq hb130 rfl⟩⟩, opv_le rfl rfl rfl ((hρ 45 (lmem rfl)).trans rfl) ((hρ 51 (lmem rfl)).trans rfl)⟩),
            (hd_v rfl fun ρ hρ => ⟨rfl, ov_pickT rfl rfl rfl rfl ((hρ 43 (lmem rfl)).trans rfl) hb130 ((hρ 52 (lmem rfl)).trans rfl)⟩),
            (hd_v rfl fun ρ hρ => ⟨rfl, opv_move rfl rfl ((hρ 53 (lmem rfl)).trans rfl)⟩),
            (hd_v rfl fun ρ hρ => ⟨⟨_, rfl, .inl ⟨_, ((hρ 54 (lmem rfl)).trans rfl), gq hb160 rfl⟩⟩, ov_fldA rfl rfl underlying33 rfl sz3 (by decide) ((hρ 7 (lmem rfl)).trans rfl) hp164 rfl hv165⟩),
            (hd_v rfl fun ρ hρ => ⟨⟨_, rfl, .inl ⟨_, ((hρ 54 (lmem rfl)).trans rfl), gq hb160 rfl⟩⟩, ov_ldI rfl underlying3 rfl ((hρ 55 (lmem rfl)).trans rfl) hp168 hg170⟩),
            (hd_v rfl fun ρ hρ => ⟨⟨_, rfl, .inl ⟨_, ((hρ 54 (lmem rfl)).trans rfl), gq hb160 rfl⟩⟩, opv_move rfl rfl ((hρ 0 (lmem rfl)).trans h0)⟩),
            (hd_v rfl fun ρ hρ => ⟨⟨_, rfl, .inl ⟨_, ((hρ 54 (lmem rfl)).trans rfl), gq hb160 rfl⟩⟩, opv_lenS rfl rfl rfl underlying9 ((hρ 57 (lmem rfl)).trans rfl)⟩),
            (hd_v rfl fun ρ hρ => ⟨⟨_, rfl, .inl ⟨_, ((hρ 54 (lmem rfl)).trans rfl), gq hb160 rfl⟩⟩, opv_gt rfl rfl rfl ((hρ 56 (lmem rfl)).trans rfl) ((hρ 58 (lmem rfl)).trans rfl)⟩),
            (hd_v rfl fun ρ hρ => ⟨rfl, ov_pickF rfl rfl rfl rfl ((hρ 54 (lmem rfl)).trans rfl) hb160 ((hρ 59 (lmem rfl)).trans rfl)⟩),
            (hd_v rfl fun ρ hρ => ⟨rfl, opv_move rfl rfl ((hρ 60 (lmem rfl)).trans rfl)⟩),
            (hd_s rfl (fun ρ hρ => ⟨_, rfl, .inl ⟨_, ((hρ 61 (lmem rfl)).trans rfl), gq hb171 rfl⟩⟩) rfl),
            (hd_s rfl (fun ρ hρ => ⟨_, rfl, .inl ⟨_, ((hρ 61 (lmem rfl)).trans rfl), gq hb171 rfl⟩⟩) rfl),
            (hd_s rfl (fun ρ hρ => ⟨_, rfl, .inl ⟨_, ((hρ 61 (lmem rfl)).trans rfl), gq hb171 rfl⟩⟩) rfl),
            (hd_s rfl (fun ρ hρ => ⟨_, rfl, .inl ⟨_, ((hρ 61 (lmem rfl)).trans rfl), gq hb171 rfl⟩⟩) rfl),
            (hd_s rfl (fun ρ hρ => ⟨_, rfl, .inl ⟨_, ((hρ 61 (lmem rfl)).trans rfl), gq hb171 rfl⟩⟩) rfl),
            (hd_s rfl (fun ρ hρ => ⟨_, rfl, .inl ⟨_, ((hρ 61 (lmem rfl)).trans rfl), gq hb171 rfl⟩⟩) rfl),
            (hd_s rfl (fun ρ hρ => ⟨_, rfl, .inl ⟨_, ((hρ 61 (lmem rfl)).trans rfl), gq hb171 rfl⟩⟩) rfl),
            (hd_s rfl (fun ρ hρ => ⟨_, rfl, .inl ⟨_, ((hρ 61 (lmem rfl)).trans rfl), gq hb171 rfl⟩⟩) rfl),
            (hd_s rfl (fun ρ hρ => ⟨_, rfl, .inl ⟨_, ((hρ 61 (lmem rfl)).trans rfl), gq hb171 rfl⟩⟩) rfl),
            (hd_v rfl fun ρ hρ => ⟨rfl, ov_pickT rfl rfl rfl rfl ((hρ 61 (lmem rfl)).trans rfl) hb171 rfl⟩),
            trivial⟩ ?_
          refine tailAll_cons (hv' := [(0, Value.int .i64 i_6), (1, Value.bool (decide (0 < i_6))), (2, Value.bool (decide (0 < i_6))), (3, p131), (4, Value.int .i64 x139), (5, l_3), (6, Value.int .i64 i_6), (7, Value.int .i64 (IntKind.i64.wrap (i_6 - 1))), (8, p141), (9, p150), (10, Value.int .i64 x158), (11, Value.bool (decide (x139 ≤ x158))), (12, Value.bool (decide (x139 ≤ x158))), (13, Value.bool (decide (x139 ≤ x158))), (14, p161), (15, Value.int .i64 x169), (16, Value.string s_0), (17, Value.int .i64 (s_0.size : Int)), (18, Value.bool (decide ((s_0.size : Int) < x169))), (19, Value.bool (decide ((s_0.size : Int) < x169))), (20, Value.bool (decide ((s_0.size : Int) < x169))), (21, undef), (22, undef), (23, undef), (24, undef), (25, undef), (26, undef), (27, undef), (28, undef), (29, undef), (30, Value.bool true)]) rfl (pv_cons rfl (pv_cons rfl (pv_cons rfl (pv_cons rfl (pv_cons rfl (pv_cons rfl (pv_cons rfl (pv_cons rfl (pv_cons rfl (pv_cons rfl (pv_cons rfl (pv_cons rfl (pv_cons rfl (pv_cons rfl (pv_cons rfl (pv_cons rfl (pv_cons rfl (pv_cons rfl (pv_cons rfl (pv_cons rfl (pv_cons rfl (pv_cons rfl (pv_cons rfl (pv_cons rfl (pv_cons rfl (pv_cons rfl (pv_cons rfl (pv_cons rfl (pv_cons rfl (pv_cons rfl (pv_cons rfl (pv_nil _)))))))))))))))))))))))))))))))) ?_ ?_
          · skip
            refine tail_0 (by decide +kernel) ?_
            exact S5_2_ok Q E nx1 L1 _ s_0 l_3 at_4 i_6 p119 true aw123 h0 h3 h4 h6 rfl rfl H
          exact trivial
        · replace H := cnd_f H hb171
          obtain ⟨b173, i174, p172, hp175, hv176, H⟩ := H
          obtain ⟨b177, i178, x180, hp179, hg181, H⟩ := H
          obtain ⟨q183, l184, c185, n182, hv186, hn187, H⟩ := H
          refine ago_drawE (hs := [0, 1, 2, 3, 4, 5, 6, 7, 8, 9, 10, 11, 12, 13, 14, 15, 16, 17, 18, 19, 20, 21, 22, 23, 24, 25, 26, 27, 28, 29, 30]) (fl := []) (hv := [(0, Value.int .i64 i_6), (1, Value.bool (decide (0 < i_6))), (2, Value.bool (decide (0 < i_6))), (3, p131), (4, Value.int .i64 x139), (5, l_3), (6, Value.int .i64 i_6), (7, Value.int .i64 (IntKind.i64.wrap (i_6 - 1))), (8, p141), (9, p150), (10, Value.int .i64 x158), (11, Value.bool (decide (x139 ≤ x158))), (12, Value.bool (decide (x139 ≤ x158))), (13, Value.bool (decide (x139 ≤ x158))), (14, p161), (15, Value.int .i64 x169), (16, Value.string s_0), (17, Value.int .i64 (s_0.size : Int)), (18, Value.bool (decide ((s_0.size : Int) < x169))), (19, Value.bool (decide ((s_0.size : Int) < x169))), (20, Value.bool (decide ((s_0.size : Int) < x169))), (21, p172), (22, Value.int .u8 x180), (23, Value.bool (decide (x180 = 0))), (24, Value.int .i64 i_6), (25, l_3), (26, Value.int .i64 n182), (27, Value.int .i64 (IntKind.i64.wrap (n182 - 1))), (28, Value.bool (decide (i_6 = (IntKind.i64.wrap (n182 - 1))))), (29, Value.bool (!((decide (x180 = 0)) == (decide (i_6 = (IntKind.i64.wrap (n182 - 1))))))), (30, Value.bool (!((decide (x180 = 0)) == (decide (i_6 = (IntKind.i64.wrap (n182 - 1)))))))]) E5_37 mixed R5_10_N R5_10_O (by decide) rfl (pv_cons rfl (pv_cons rfl (pv_cons rfl (pv_cons rfl (pv_cons rfl (pv_cons rfl (pv_cons rfl (pv_cons rfl (pv_cons rfl (pv_cons rfl (pv_cons rfl (pv_cons rfl (pv_cons rfl (pv_cons rfl (pv_cons rfl (pv_cons rfl (pv_cons rfl (pv_cons rfl (pv_cons rfl (pv_cons rfl (pv_cons rfl (pv_cons rfl (pv_cons rfl (pv_cons rfl (pv_cons rfl (pv_cons rfl (pv_cons rfl (pv_cons rfl (pv_cons rfl (pv_cons rfl (pv_cons rfl (pv_nil _))))))))))))))))))))))))))))))))
            ⟨(hd_v rfl fun ρ hρ => ⟨rfl, opv_move rfl rfl ((hρ 6 (lmem rfl)).trans h6)⟩),
            (hd_v rfl fun ρ hρ => ⟨rfl, opv_gt rfl rfl rfl ((hρ 41 (lmem rfl)).trans rfl) rfl⟩),
            (hd_v rfl fun ρ hρ => ⟨rfl, opv_move rfl rfl ((hρ 42 (lmem rfl)).trans rfl)⟩),
            (hd_v rfl fun ρ hρ => ⟨⟨_, rfl, .inl ⟨_, ((hρ 43 (lmem rfl)).trans rfl), gq hb130 rfl⟩⟩, ov_fldA rfl rfl underlying33 rfl sz3 (by decide) ((hρ 7 (lmem rfl)).trans rfl) hp134 rfl hv135⟩),
            (hd_v rfl fun ρ hρ => ⟨⟨_, rfl, .inl ⟨_, ((hρ 43 (lmem rfl)).trans rfl), gq hb130 rfl⟩⟩, ov_ldI rfl underlying3 rfl ((hρ 44 (lmem rfl)).trans rfl) hp138 hg140⟩),
            (hd_v rfl fun ρ hρ => ⟨⟨_, rfl, .inl ⟨_, ((hρ 43 (lmem rfl)).trans rfl), gq hb130 rfl⟩⟩, opv_move rfl rfl ((hρ 3 (lmem rfl)).trans h3)⟩),
            (hd_v rfl fun ρ hρ => ⟨⟨_, rfl, .inl ⟨_, ((hρ 43 (lmem rfl)).trans rfl), gq hb130 rfl⟩⟩, opv_move rfl rfl ((hρ 6 (lmem rfl)).trans h6)⟩),
            (hd_v rfl fun ρ hρ => ⟨⟨_, rfl, .inl ⟨_, ((hρ 43 (lmem rfl)).trans rfl), gq hb130 rfl⟩⟩, opv_sub rfl rfl rfl ((hρ 47 (lmem rfl)).trans rfl) rfl⟩),
            (hd_v rfl fun ρ hρ => ⟨⟨_, rfl, .inl ⟨_, ((hρ 43 (lmem rfl)).trans rfl), gq hb130 rfl⟩⟩, ov_ixS rfl rfl rfl underlying23 sz33 ((hρ 46 (lmem rfl)).trans rfl) ((hρ 48 (lmem rfl)).trans rfl) hp146 h0147 hj148 hv149⟩),
            (hd_v rfl fun ρ hρ => ⟨⟨_, rfl, .inl ⟨_, ((hρ 43 (lmem rfl)).trans rfl), gq hb130 rfl⟩⟩, ov_fldA rfl rfl underlying33 rfl sz3 (by decide) ((hρ 49 (lmem rfl)).trans rfl) hp153 rfl hv154⟩),
            (hd_v rfl fun ρ hρ => ⟨⟨_, rfl, .inl ⟨_, ((hρ 43 (lmem rfl)).trans rfl), gq hb130 rfl⟩⟩, ov_ldI rfl underlying3 rfl ((hρ 50 (lmem rfl)).trans rfl) hp157 hg159⟩),
            (hd_v rfl fun ρ hρ => ⟨⟨_, rfl, .inl ⟨_, ((hρ 43 (lmem rfl)).trans rfl), gq hb130 rfl⟩⟩, opv_le rfl rfl rfl ((hρ 45 (lmem rfl)).trans rfl) ((hρ 51 (lmem rfl)).trans rfl)⟩),
            (hd_v rfl fun ρ hρ => ⟨rfl, ov_pickT rfl rfl rfl rfl ((hρ 43 (lmem rfl)).trans rfl) hb130 ((hρ 52 (lmem rfl)).trans rfl)⟩),
            (hd_v rfl fun ρ hρ => ⟨rfl, opv_move rfl rfl ((hρ 53 (lmem rfl)).trans rfl)⟩),
            (hd_v rfl fun ρ hρ => ⟨⟨_, rfl, .inl ⟨_, ((hρ 54 (lmem rfl)).trans rfl), gq hb160 rfl⟩⟩, ov_fldA rfl rfl underlying33 rfl sz3 (by decide) ((hρ 7 (lmem rfl)).trans rfl) hp164 rfl hv165⟩),
            (hd_v rfl fun ρ hρ => ⟨⟨_, rfl, .inl ⟨_, ((hρ 54 (lmem rfl)).trans rfl), gq hb160 rfl⟩⟩, ov_ldI rfl underlying3 rfl ((hρ 55 (lmem rfl)).trans rfl) hp168 hg170⟩),
            (hd_v rfl fun ρ hρ => ⟨⟨_, rfl, .inl ⟨_, ((hρ 54 (lmem rfl)).trans rfl), gq hb160 rfl⟩⟩, opv_move rfl rfl ((hρ 0 (lmem rfl)).trans h0)⟩),
            (hd_v rfl fun ρ hρ => ⟨⟨_, rfl, .inl ⟨_, ((hρ 54 (lmem rfl)).trans rfl), gq hb160 rfl⟩⟩, opv_lenS rfl rfl rfl underlying9 ((hρ 57 (lmem rfl)).trans rfl)⟩),
            (hd_v rfl fun ρ hρ => ⟨⟨_, rfl, .inl ⟨_, ((hρ 54 (lmem rfl)).trans rfl), gq hb160 rfl⟩⟩, opv_gt rfl rfl rfl ((hρ 56 (lmem rfl)).trans rfl) ((hρ 58 (lmem rfl)).trans rfl)⟩),
            (hd_v rfl fun ρ hρ => ⟨rfl, ov_pickF rfl rfl rfl rfl ((hρ 54 (lmem rfl)).trans rfl) hb160 ((hρ 59 (lmem rfl)).trans rfl)⟩),
            (hd_v rfl fun ρ hρ => ⟨rfl, opv_move rfl rfl ((hρ 60 (lmem rfl)).trans rfl)⟩),
            (hd_v rfl fun ρ hρ => ⟨⟨_, rfl, .inl ⟨_, ((hρ 61 (lmem rfl)).trans rfl), gq hb171 rfl⟩⟩, ov_fldA rfl rfl underlying33 rfl sz5 (by decide) ((hρ 7 (lmem rfl)).trans rfl) hp175 rfl hv176⟩),
            (hd_v rfl fun ρ hρ => ⟨⟨_, rfl, .inl ⟨_, ((hρ 61 (lmem rfl)).trans rfl), gq hb171 rfl⟩⟩, ov_ldI rfl underlying5 rfl ((hρ 62 (lmem rfl)).trans rfl) hp179 hg181⟩),
            (hd_v rfl fun ρ hρ => ⟨⟨_, rfl, .inl ⟨_, ((hρ 61 (lmem rfl)).trans rfl), gq hb171 rfl⟩⟩, opv_eqI rfl rfl rfl ((hρ 63 (lmem rfl)).trans rfl) rfl⟩),
            (hd_v rfl fun ρ hρ => ⟨⟨_, rfl, .inl ⟨_, ((hρ 61 (lmem rfl)).trans rfl), gq hb171 rfl⟩⟩, opv_move rfl rfl ((hρ 6 (lmem rfl)).trans h6)⟩),
            (hd_v rfl fun ρ hρ => ⟨⟨_, rfl, .inl ⟨_, ((hρ 61 (lmem rfl)).trans rfl), gq hb171 rfl⟩⟩, opv_move rfl rfl ((hρ 3 (lmem rfl)).trans h3)⟩),
            (hd_v rfl fun ρ hρ => ⟨⟨_, rfl, .inl ⟨_, ((hρ 61 (lmem rfl)).trans rfl), gq hb171 rfl⟩⟩, ov_len rfl rfl rfl underlying23 ((hρ 66 (lmem rfl)).trans rfl) hv186 hn187⟩),
            (hd_v rfl fun ρ hρ => ⟨⟨_, rfl, .inl ⟨_, ((hρ 61 (lmem rfl)).trans rfl), gq hb171 rfl⟩⟩, opv_sub rfl rfl rfl ((hρ 67 (lmem rfl)).trans rfl) rfl⟩),
            (hd_v rfl fun ρ hρ => ⟨⟨_, rfl, .inl ⟨_, ((hρ 61 (lmem rfl)).trans rfl), gq hb171 rfl⟩⟩, opv_eqI rfl rfl rfl ((hρ 65 (lmem rfl)).trans rfl) ((hρ 68 (lmem rfl)).trans rfl)⟩),
            (hd_v rfl fun ρ hρ => ⟨⟨_, rfl, .inl ⟨_, ((hρ 61 (lmem rfl)).trans rfl), gq hb171 rfl⟩⟩, opv_neB rfl rfl rfl underlying4 ((hρ 64 (lmem rfl)).trans rfl) ((hρ 69 (lmem rfl)).trans rfl)⟩),
            (hd_v rfl fun ρ hρ => ⟨rfl, ov_pickF rfl rfl rfl rfl ((hρ 61 (lmem rfl)).trans rfl) hb171 ((hρ 70 (lmem rfl)).trans rfl)⟩),
            trivial⟩ ?_
          refine tailAll_cons (hv' := [(0, Value.int .i64 i_6), (1, Value.bool (decide (0 < i_6))), (2, Value.bool (decide (0 < i_6))), (3, p131), (4, Value.int .i64 x139), (5, l_3), (6, Value.int .i64 i_6), (7, Value.int .i64 (IntKind.i64.wrap (i_6 - 1))), (8, p141), (9, p150), (10, Value.int .i64 x158), (11, Value.bool (decide (x139 ≤ x158))), (12, Value.bool (decide (x139 ≤ x158))), (13, Value.bool (decide (x139 ≤ x158))), (14, p161), (15, Value.int .i64 x169), (16, Value.string s_0), (17, Value.int .i64 (s_0.size : Int)), (18, Value.bool (decide ((s_0.size : Int) < x169))), (19, Value.bool (decide ((s_0.size : Int) < x169))), (20, Value.bool (decide ((s_0.size : Int) < x169))), (21, p172), (22, Value.int .u8 x180), (23, Value.bool (decide (x180 = 0))), (24, Value.int .i64 i_6), (25, l_3), (26, Value.int .i64 n182), (27, Value.int .i64 (IntKind.i64.wrap (n182 - 1))), (28, Value.bool (decide (i_6 = (IntKind.i64.wrap (n182 - 1))))), (29, Value.bool (!((decide (x180 = 0)) == (decide (i_6 = (IntKind.i64.wrap (n182 - 1))))))), (30, Value.bool (!((decide (x180 = 0)) == (decide (i_6 = (IntKind.i64.wrap (n182 - 1)))))))]) rfl (pv_cons rfl (pv_cons rfl (pv_cons rfl (pv_cons rfl (pv_cons rfl (pv_cons rfl (pv_cons rfl (pv_cons rfl (pv_cons rfl (pv_cons rfl (pv_cons rfl (pv_cons rfl (pv_cons rfl (pv_cons rfl (pv_cons rfl (pv_cons rfl (pv_cons rfl (pv_cons rfl (pv_cons rfl (pv_cons rfl (pv_cons rfl (pv_cons rfl (pv_cons rfl (pv_cons rfl (pv_cons rfl (pv_cons rfl (pv_cons rfl (pv_cons rfl (pv_cons rfl (pv_cons rfl (pv_cons rfl (pv_nil _)))))))))))))))))))))))))))))))) ?_ ?_
          · skip
            refine tail_0 (by decide +kernel) ?_
            exact S5_2_ok Q E nx1 L1 _ s_0 l_3 at_4 i_6 p119 (!((decide (x180 = 0)) == (decide (i_6 = (IntKind.i64.wrap (n182 - 1)))))) aw123 h0 h3 h4 h6 rfl rfl H
          exact trivial
    · replace H := cnd_f H hb130
      obtain ⟨b189, i190, p188, hp191, hv192, H⟩ := H
      obtain ⟨b193, i194, x196, hp195, hg197, H⟩ := H
      rcases Bool.eq_false_or_eq_true (decide ((s_0.size : Int) < x196)) with hb198 | hb198
      · replace H := cnd_t H hb198
        refine ago_drawE (hs := [0, 1, 2, 3, 4, 5, 6, 7, 8, 9, 10, 11, 12, 13, 14, 15, 16, 17, 18, 19, 20, 21, 22, 23, 24, 25, 26, 27, 28, 29, 30]) (fl := []) (hv := [(0, Value.int .i64 i_6), (1, Value.bool (decide (0 < i_6))), (2, Value.bool (decide (0 < i_6))), (3, undef), (4, undef), (5, undef), (6, undef), (7, undef), (8, undef), (9, undef), (10, undef), (11, undef), (12, Value.bool false), (13, Value.bool false), (14, p188), (15, Value.int .i64 x196), (16, Value.string s_0), (17, Value.int .i64 (s_0.size : Int)), (18, Value.bool (decide ((s_0.size : Int) < x196))), (19, Value.bool (decide ((s_0.size : Int) < x196))), (20, Value.bool (decide ((s_0.size : Int) < x196))), (21, undef), (22, undef), (23, undef), (24, undef), (25, undef), (26, undef), (27, undef), (28, undef), (29, undef), (30, Value.bool true)]) E5_37 mixed R5_10_N R5_10_O (by decide) rfl (pv_cons rfl (pv_cons rfl (pv_cons rfl (pv_cons rfl (pv_cons rfl (pv_cons rfl (pv_cons rfl (pv_cons rfl (pv_cons rfl (pv_cons rfl (pv_cons rfl (pv_cons rfl (pv_cons rfl (pv_cons rfl (pv_cons rfl (pv_cons rfl (pv_cons rfl (pv_cons rfl (pv_cons rfl (pv_cons rfl (pv_cons rfl (pv_cons rfl (pv_cons rfl (pv_cons rfl (pv_cons rfl (pv_cons rfl (pv_cons rfl (pv_cons rfl (pv_cons rfl (pv_cons rfl (pv_cons rfl (pv_nil _))))))))))))))))))))))))))))))))
          ⟨(hd_v rfl fun ρ hρ => ⟨rfl, opv_move rfl rfl ((hρ 6 (lmem rfl)).trans h6)⟩),
          (hd_v rfl fun ρ hρ => ⟨rfl, opv_gt rfl rfl rfl ((hρ 41 (lmem rfl)).trans rfl) rfl⟩),
          (hd_v rfl fun ρ hρ => ⟨rfl, opv_move rfl rfl ((hρ 42 (lmem rfl)).trans rfl)⟩),
          (hd_s rfl (fun ρ hρ => ⟨_, rfl, .inl ⟨_, ((hρ 43 (lmem rfl)).trans rfl), gq hb130 rfl⟩⟩) rfl),
          (hd_s rfl (fun ρ hρ => ⟨_, rfl, .inl ⟨_, ((hρ 43 (lmem rfl)).trans rfl), gq hb130 rfl⟩⟩) rfl),
          (hd_s rfl (fun ρ hρ => ⟨_, rfl, .inl ⟨_, ((hρ 43 (lmem rfl)).trans rfl), gq hb130 rfl⟩⟩) rfl),
          (hd_s rfl (fun ρ hρ => ⟨_, rfl, .inl ⟨_, ((hρ 43 (lmem rfl)).trans rfl), gq hb130 rfl⟩⟩) rfl),
          (hd_s rfl (fun ρ hρ => ⟨_, rfl, .inl ⟨_, ((hρ 43 (lmem rfl)).trans rfl), gq hb130 rfl⟩⟩) rfl),
          (hd_s rfl (fun ρ hρ => ⟨_, rfl, .inl ⟨_, ((hρ 43 (lmem rfl)).trans rfl), gq hb130 rfl⟩⟩) rfl),
          (hd_s rfl (fun ρ hρ => ⟨_, rfl, .inl ⟨_, ((hρ 43 (lmem rfl)).trans rfl), gq hb130 rfl⟩⟩) rfl),
          (hd_s rfl (fun ρ hρ => ⟨_, rfl, .inl ⟨_, ((hρ 43 (lmem rfl)).trans rfl), gq hb130 rfl⟩⟩) rfl),
          (hd_s rfl (fun ρ hρ => ⟨_, rfl, .inl ⟨_, ((hρ 43 (lmem rfl)).trans rfl), gq hb130 rfl⟩⟩) rfl),
          (hd_v rfl fun ρ hρ => ⟨rfl, ov_pickF rfl rfl rfl rfl ((hρ 43 (lmem rfl)).trans rfl) hb130 rfl⟩),
          (hd_v rfl fun ρ hρ => ⟨rfl, opv_move rfl rfl ((hρ 53 (lmem rfl)).trans rfl)⟩),
          (hd_v rfl fun ρ hρ => ⟨⟨_, rfl, .inl ⟨_, ((hρ 54 (lmem rfl)).trans rfl), gq rfl rfl⟩⟩, ov_fldA rfl rfl underlying33 rfl sz3 (by decide) ((hρ 7 (lmem rfl)).trans rfl) hp191 rfl hv192⟩),
          (hd_v rfl fun ρ hρ => ⟨⟨_, rfl, .inl ⟨_, ((hρ 54 (lmem rfl)).trans rfl), gq rfl rfl⟩⟩, ov_ldI rfl underlying3 rfl ((hρ 55 (lmem rfl)).trans rfl) hp195 hg197⟩),
          (hd_v rfl fun ρ hρ => ⟨⟨_, rfl, .inl ⟨_, ((hρ 54 (lmem rfl)).trans rfl), gq rfl rfl⟩⟩, opv_move rfl rfl ((hρ 0 (lmem rfl)).trans h0)⟩),
          (hd_v rfl fun ρ hρ => ⟨⟨_, rfl, .inl ⟨_, ((hρ 54 (lmem rfl)).trans rfl), gq rfl rfl⟩⟩, opv_lenS rfl rfl rfl underlying9 ((hρ 57 (lmem rfl)).trans rfl)⟩),
          (hd_v rfl fun ρ hρ => ⟨⟨_, rfl, .inl ⟨_, ((hρ 54 (lmem rfl)).trans rfl), gq rfl rfl⟩⟩, opv_gt rfl rfl rfl ((hρ 56 (lmem rfl)).trans rfl) ((hρ 58 (lmem rfl)).trans rfl)⟩),
          (hd_v rfl fun ρ hρ => ⟨rfl, ov_pickF rfl rfl rfl rfl ((hρ 54 (lmem rfl)).trans rfl) rfl ((hρ 59 (lmem rfl)).trans rfl)⟩),
          (hd_v rfl fun ρ hρ => ⟨rfl, opv_move rfl rfl ((hρ 60 (lmem rfl)).trans rfl)⟩),
          (hd_s rfl (fun ρ hρ => ⟨_, rfl, .inl ⟨_, ((hρ 61 (lmem rfl)).trans rfl), gq hb198 rfl⟩⟩) rfl),
          (hd_s rfl (fun ρ hρ => ⟨_, rfl, .inl ⟨_, ((hρ 61 (lmem rfl)).trans rfl), gq hb198 rfl⟩⟩) rfl),
          (hd_s rfl (fun ρ hρ => ⟨_, rfl, .inl ⟨_, ((hρ 61 (lmem rfl)).trans rfl), gq hb198 rfl⟩⟩) rfl),
          (hd_s rfl (fun ρ hρ => ⟨_, rfl, .inl ⟨_, ((hρ 61 (lmem rfl)).trans rfl), gq hb198 rfl⟩⟩) rfl),
          (hd_s rfl (fun ρ hρ => ⟨_, rfl, .inl ⟨_, ((hρ 61 (lmem rfl)).trans rfl), gq hb198 rfl⟩⟩) rfl),
          (hd_s rfl (fun ρ hρ => ⟨_, rfl, .inl ⟨_, ((hρ 61 (lmem rfl)).trans rfl), gq hb198 rfl⟩⟩) rfl),
          (hd_s rfl (fun ρ hρ => ⟨_, rfl, .inl ⟨_, ((hρ 61 (lmem rfl)).trans rfl), gq hb198 rfl⟩⟩) rfl),
          (hd_s rfl (fun ρ hρ => ⟨_, rfl, .inl ⟨_, ((hρ 61 (lmem rfl)).trans rfl), gq hb198 rfl⟩⟩) rfl),
          (hd_s rfl (fun ρ hρ => ⟨_, rfl, .inl ⟨_, ((hρ 61 (lmem rfl)).trans rfl), gq hb198 rfl⟩⟩) rfl),
          (hd_v rfl fun ρ hρ => ⟨rfl, ov_pickT rfl rfl rfl rfl ((hρ 61 (lmem rfl)).trans rfl) hb198 rfl⟩),
          trivial⟩ ?_
        refine tailAll_cons (hv' := [(0, Value.int .i64 i_6), (1, Value.bool (decide (0 < i_6))), (2, Value.bool (decide (0 < i_6))), (3, undef), (4, undef), (5, undef), (6, undef), (7, undef), (8, undef), (9, undef), (10, undef), (11, undef), (12, Value.bool false), (13, Value.bool false), (14, p188), (15, Value.int .i64 x196), (16, Value.string s_0), (17, Value.int .i64 (s_0.size : Int)), (18, Value.bool (decide ((s_0.size : Int) < x196))), (19, Value.bool (decide ((s_0.size : Int) < x196))), (20, Value.bool (decide ((s_0.size : Int) < x196))), (21, undef), (22, undef), (23, undef), (24, undef), (25, undef), (26, undef), (27, undef), (28, undef), (29, undef), (30, Value.bool true)]) rfl (pv_cons rfl (pv_cons rfl (pv_cons rfl (pv_cons rfl (pv_cons rfl (pv_cons rfl (pv_cons rfl (pv_cons rfl (pv_cons rfl (pv_cons rfl (pv_cons rfl (pv_cons rfl (pv_cons rfl (pv_cons rfl (pv_cons rfl (pv_cons rfl (pv_cons rfl (pv_cons rfl (pv_cons rfl (pv_cons rfl (pv_cons rfl (pv_cons rfl (pv_cons rfl (pv_cons rfl (pv_cons rfl (pv_cons rfl (pv_cons rfl (pv_cons rfl (pv_cons rfl (pv_cons rfl (pv_cons rfl (pv_nil _)))))))))))))))))))))))))))))))) ?_ ?_
        · skip
          refine tail_0 (by decide +kernel) ?_
          exact S5_2_ok Q E nx1 L1 _ s_0 l_3 at_4 i_6 p119 true aw123 h0 h3 h4 h6 rfl rfl H
        exact trivial
      · replace H := cnd_f H hb198
        obtain ⟨b200, i201, p199, hp202, hv203, H⟩ := H
        obtain ⟨b204, i205, x207, hp206, hg208, H⟩ := H
        obtain ⟨q210, l211, c212, n209, hv213, hn214, H⟩ := H
        refine ago_drawE (hs := [0, 1, 2, 3, 4, 5, 6, 7, 8, 9, 10, 11, 12, 13, 14, 15, 16, 17, 18, 19, 20, 21, 22, 23, 24, 25, 26, 27, 28, 29, 30]) (fl := []) (hv := [(0, Value.int .i64 i_6), (1, Value.bool (decide (0 < i_6))), (2, Value.bool (decide (0 < i_6))), (3, undef), (4, undef), (5, undef), (6, undef), (7, undef), (8, undef), (9, undef), (10, undef), (11, undef), (12, Value.bool false), (13, Value.bool false), (14, p188), (15, Value.int .i64 x196), (16, Value.string s_0), (17, Value.int .i64 (s_0.size : Int)), (18, Value.bool (decide ((s_0.size : Int) < x196))), (19, Value.bool (decide ((s_0.size : Int) < x196))), (20, Value.bool (decide ((s_0.size : Int) < x196))), (21, p199), (22, Value.int .u8 x207), (23, Value.bool (decide (x207 = 0))), (24, Value.int .i64 i_6), (25, l_3), (26, Value.int .i64 n209), (27, Value.int .i64 (IntKind.i64.wrap (n209 - 1))), (28, Value.bool (decide (i_6 = (IntKind.i64.wrap (n209 - 1))))), (29, Value.bool (!((decide (x207 = 0)) == (decide (i_6 = (IntKind.i64.wrap (n209 - 1))))))), (30, Value.bool (!((decide (x207 = 0)) == (decide (i_6 = (IntKind.i64.wrap (n209 - 1)))))))]) E5_37 mixed R5_10_N R5_10_O (by decide) rfl (pv_cons rfl (pv_cons rfl (pv_cons rfl (pv_cons rfl (pv_cons rfl (pv_cons rfl (pv_cons rfl (pv_cons rfl (pv_cons rfl (pv_cons rfl (pv_cons rfl (pv_cons rfl (pv_cons rfl (pv_cons rfl (pv_cons rfl (pv_cons rfl (pv_cons rfl (pv_cons rfl (pv_cons rfl (pv_cons rfl (pv_cons rfl (pv_cons rfl (pv_cons rfl (pv_cons rfl (pv_cons rfl (pv_cons rfl (pv_cons rfl (pv_cons rfl (pv_cons rfl (pv_cons rfl (pv_cons rfl (pv_nil _))))))))))))))))))))))))))))))))
          ⟨(hd_v rfl fun ρ hρ => ⟨rfl, opv_move rfl rfl ((hρ 6 (lmem rfl)).trans h6)⟩),
          (hd_v rfl fun ρ hρ => ⟨rfl, opv_gt rfl rfl rfl ((hρ 41 (lmem rfl)).trans rfl) rfl⟩),
          (hd_v rfl fun ρ hρ => ⟨rfl, opv_move rfl rfl ((hρ 42 (lmem rfl)).trans rfl)⟩),
          (hd_s rfl (fun ρ hρ => ⟨_, rfl, .inl ⟨_, ((hρ 43 (lmem rfl)).trans rfl), gq hb130 rfl⟩⟩) rfl),
          (hd_s rfl (fun ρ hρ => ⟨_, rfl, .inl ⟨_, ((hρ 43 (lmem rfl)).trans rfl), gq hb130 rfl⟩⟩) rfl),
          (hd_s rfl (fun ρ hρ => ⟨_, rfl, .inl ⟨_, ((hρ 43 (lmem rfl)).trans rfl), gq hb130 rfl⟩⟩) rfl),
          (hd_s rfl (fun ρ hρ => ⟨_, rfl, .inl ⟨_, ((hρ 43 (lmem rfl)).trans rfl), gq hb130 rfl⟩⟩) rfl),
          (hd_s rfl (fun ρ hρ => ⟨_, rfl, .inl ⟨_, ((hρ 43 (lmem rfl)).trans rfl), gq hb130 rfl⟩⟩) rfl),
          (hd_s rfl (fun ρ hρ => ⟨_, rfl, .inl ⟨_, ((hρ 43 (lmem rfl)).trans rfl), gq hb130 rfl⟩⟩) rfl),
          (hd_s rfl (fun ρ hρ => ⟨_, rfl, .inl ⟨_, ((hρ 43 (lmem rfl)).trans rfl), gq hb130 rfl⟩⟩) rfl),
          (hd_s rfl (fun ρ hρ => ⟨_, rfl, .inl ⟨_, ((hρ 43 (lmem rfl)).trans rfl), gq hb130 rfl⟩⟩) rfl),
          (hd_s rfl (fun ρ hρ => ⟨_, rfl, .inl ⟨_, ((hρ 43 (lmem rfl)).trans rfl), gq hb130 rfl⟩⟩) rfl),
          (hd_v rfl fun ρ hρ => ⟨rfl, ov_pickF rfl rfl rfl rfl ((hρ 43 (lmem rfl)).trans rfl) hb130 rfl⟩),
          (hd_v rfl fun ρ hρ => ⟨rfl, opv_move rfl rfl ((hρ 53 (lmem rfl)).trans rfl)⟩),
          (hd_v rfl fun ρ hρ => ⟨⟨_, rfl, .inl ⟨_, ((hρ 54 (lmem rfl)).trans rfl), gq rfl rfl⟩⟩, ov_fldA rfl rfl underlying33 rfl sz3 (by decide) ((hρ 7 (lmem rfl)).trans rfl) hp191 rfl hv192⟩),
          (hd_v rfl fun ρ hρ => ⟨⟨_, rfl, .inl ⟨_, ((hρ 54 (lmem rfl)).trans rfl), gq rfl rfl⟩⟩, ov_ldI rfl underlying3 rfl ((hρ 55 (lmem rfl)).trans rfl) hp195 hg197⟩),
          (hd_v rfl fun ρ hρ => ⟨⟨_, rfl, .inl ⟨_, ((hρ 54 (lmem rfl)).trans rfl), gq rfl rfl⟩⟩, opv_move rfl rfl ((hρ 0 (lmem rfl)).trans h0)⟩),
          (hd_v rfl fun ρ hρ => ⟨⟨_, rfl, .inl ⟨_, ((hρ 54 (lmem rfl)).trans rfl), gq rfl rfl⟩⟩, opv_lenS rfl rfl rfl underlying9 ((hρ 57 (lmem rfl)).trans rfl)⟩),
          (hd_v rfl fun ρ hρ => ⟨⟨_, rfl, .inl ⟨_, ((hρ 54 (lmem rfl)).trans rfl), gq rfl rfl⟩⟩, opv_gt rfl rfl rfl ((hρ 56 (lmem rfl)).trans rfl) ((hρ 58 (lmem rfl)).trans rfl)⟩),
          (hd_v rfl fun ρ hρ => ⟨rfl, ov_pickF rfl rfl rfl rfl ((hρ 54 (lmem rfl)).trans rfl) rfl ((hρ 59 (lmem rfl)).trans rfl)⟩),
          (hd_v rfl fun ρ hρ => ⟨rfl, opv_move rfl rfl ((hρ 60 (lmem rfl)).trans rfl)⟩),
          (hd_v rfl fun ρ hρ => ⟨⟨_, rfl, .inl ⟨_, ((hρ 61 (lmem rfl)).trans rfl), gq hb198 rfl⟩⟩, ov_fldA rfl rfl underlying33 rfl sz5 (by decide) ((hρ 7 (lmem rfl)).trans rfl) hp202 rfl hv203⟩),
          (hd_v rfl fun ρ hρ => ⟨⟨_, rfl, .inl ⟨_, ((hρ 61 (lmem rfl)).trans rfl), gq hb198 rfl⟩⟩, ov_ldI rfl underlying5 rfl ((hρ 62 (lmem rfl)).trans rfl) hp206 hg208⟩),
          (hd_v rfl fun ρ hρ => ⟨⟨_, rfl, .inl ⟨_, ((hρ 61 (lmem rfl)).trans rfl), gq hb198 rfl⟩⟩, opv_eqI rfl rfl rfl ((hρ 63 (lmem rfl)).trans rfl) rfl⟩),
          (hd_v rfl fun ρ hρ => ⟨⟨_, rfl, .inl ⟨_, ((hρ 61 (lmem rfl)).trans rfl), gq hb198 rfl⟩⟩, opv_move rfl rfl ((hρ 6 (lmem rfl)).trans h6)⟩),
          (hd_v rfl fun ρ hρ => ⟨⟨_, rfl, .inl ⟨_, ((hρ 61 (lmem rfl)).trans rfl), gq hb198 rfl⟩⟩, opv_move rfl rfl ((hρ 3 (lmem rfl)).trans h3)⟩),
          (hd_v rfl fun ρ hρ => ⟨⟨_, rfl, .inl ⟨_, ((hρ 61 (lmem rfl)).trans rfl), gq hb198 rfl⟩⟩, ov_len rfl rfl rfl underlying23 ((hρ 66 (lmem rfl)).trans rfl) hv213 hn214⟩),
          (hd_v rfl fun ρ hρ => ⟨⟨_, rfl, .inl ⟨_, ((hρ 61 (lmem rfl)).trans rfl), gq hb198 rfl⟩⟩, opv_sub rfl rfl rfl ((hρ 67 (lmem rfl)).trans rfl) rfl⟩),
          (hd_v rfl fun ρ hρ => ⟨⟨_, rfl, .inl ⟨_, ((hρ 61 (lmem rfl)).trans rfl), gq hb198 rfl⟩⟩, opv_eqI rfl rfl rfl ((hρ 65 (lmem rfl)).trans rfl) ((hρ 68 (lmem rfl)).trans rfl)⟩),
          (hd_v rfl fun ρ hρ => ⟨⟨_, rfl, .inl ⟨_, ((hρ 61 (lmem rfl)).trans rfl), gq hb198 rfl⟩⟩, opv_neB rfl rfl rfl underlying4 ((hρ 64 (lmem rfl)).trans rfl) ((hρ 69 (lmem rfl)).trans rfl)⟩),
          (hd_v rfl fun ρ hρ => ⟨rfl, ov_pickF rfl rfl rfl rfl ((hρ 61 (lmem rfl)).trans rfl) hb198 ((hρ 70 (lmem rfl)).trans rfl)⟩),
          trivial⟩ ?_
        refine tailAll_cons (hv' := [(0, Value.int .i64 i_6), (1, Value.bool (decide (0 < i_6))), (2, Value.bool (decide (0 < i_6))), (3, undef), (4, undef), (5, undef), (6, undef), (7, undef), (8, undef), (9, undef), (10, undef), (11, undef), (12, Value.bool false), (13, Value.bool false), (14, p188), (15, Value.int .i64 x196), (16, Value.string s_0), (17, Value.int .i64 (s_0.size : Int)), (18, Value.bool (decide ((s_0.size : Int) < x196))), (19, Value.bool (decide ((s_0.size : Int) < x196))), (20, Value.bool (decide ((s_0.size : Int) < x196))), (21, p199), (22, Value.int .u8 x207), (23, Value.bool (decide (x207 = 0))), (24, Value.int .i64 i_6), (25, l_3), (26, Value.int .i64 n209), (27, Value.int .i64 (IntKind.i64.wrap (n209 - 1))), (28, Value.bool (decide (i_6 = (IntKind.i64.wrap (n209 - 1))))), (29, Value.bool (!((decide (x207 = 0)) == (decide (i_6 = (IntKind.i64.wrap (n209 - 1))))))), (30, Value.bool (!((decide (x207 = 0)) == (decide (i_6 = (IntKind.i64.wrap (n209 - 1)))))))]) rfl (pv_cons rfl (pv_cons rfl (pv_cons rfl (pv_cons rfl (pv_cons rfl (pv_cons rfl (pv_cons rfl (pv_cons rfl (pv_cons rfl (pv_cons rfl (pv_cons rfl (pv_cons rfl (pv_cons rfl (pv_cons rfl (pv_cons rfl (pv_cons rfl (pv_cons rfl (pv_cons rfl (pv_cons rfl (pv_cons rfl (pv_cons rfl (pv_cons rfl (pv_cons rfl (pv_cons rfl (pv_cons rfl (pv_cons rfl (pv_cons rfl (pv_cons rfl (pv_cons rfl (pv_cons rfl (pv_cons rfl (pv_nil _)))))))))))))))))))))))))))))))) ?_ ?_
        · skip
          refine tail_0 (by decide +kernel) ?_
          exact S5_2_ok Q E nx1 L1 _ s_0 l_3 at_4 i_6 p119 (!((decide (x207 = 0)) == (decide (i_6 = (IntKind.i64.wrap (n209 - 1)))))) aw123 h0 h3 h4 h6 rfl rfl H
        exact trivial
  · replace H := cnd_f H hb100
    refine ago_exitE E5_30 rfl ?_
    refine ago_seqE E5_51 ?_
    refine ago_regE E5_52 (l := [0, 1, 2, 3, 4, 5, 6, 7, 8, 9, 10, 11, 12, 13, 14, 15, 16, 17, 18, 19]) rfl ?_
    refine lk (dt := some 106) R5_14_N rfl rfl rfl (opv_move rfl rfl h4) ?_
    refine lk (dt := some 107) R5_14_N rfl rfl rfl (opv_eqI rfl rfl rfl rfl rfl) ?_
    refine lk (dt := some 108) R5_14_N rfl rfl rfl (opv_move rfl rfl rfl) ?_
    rcases Bool.eq_false_or_eq_true (decide (at_4 = 0)) with hb215 | hb215
    · replace H := cnd_t H hb215
      refine lk (dt := some 109) R5_14_N rfl rfl ⟨_, rfl, .inl ⟨_, rfl, gq hb215 rfl⟩⟩ (opv_move rfl rfl h3) ?_
      obtain ⟨q217, l218, c219, n216, hv220, hn221, H⟩ := H
      refine lk (dt := some 110) R5_14_N rfl rfl ⟨_, rfl, .inl ⟨_, rfl, gq hb215 rfl⟩⟩ (ov_len rfl rfl rfl underlying23 rfl hv220 hn221) ?_
      refine lk (dt := some 111) R5_14_N rfl rfl ⟨_, rfl, .inl ⟨_, rfl, gq hb215 rfl⟩⟩ (opv_gt rfl rfl rfl rfl rfl) ?_
      refine lk (dt := some 112) R5_14_N rfl rfl rfl (ov_pickT rfl rfl rfl rfl rfl hb215 rfl) ?_
      refine lk (dt := some 113) R5_14_N rfl rfl rfl (opv_move rfl rfl rfl) ?_
      rcases Bool.eq_false_or_eq_true (decide (0 < n216)) with hb222 | hb222
      · replace H := cnd_t H hb222
        refine lk (dt := some 114) R5_14_N rfl rfl ⟨_, rfl, .inl ⟨_, rfl, gq hb222 rfl⟩⟩ (opv_move rfl rfl h3) ?_
        refine lk (dt := some 115) R5_14_N rfl rfl ⟨_, rfl, .inl ⟨_, rfl, gq hb222 rfl⟩⟩ (opv_move rfl rfl h3) ?_
        obtain ⟨q224, l225, c226, n223, hv227, hn228, H⟩ := H
        refine lk (dt := some 116) R5_14_N rfl rfl ⟨_, rfl, .inl ⟨_, rfl, gq hb222 rfl⟩⟩ (ov_len rfl rfl rfl underlying23 rfl hv227 hn228) ?_
        refine lk (dt := some 117) R5_14_N rfl rfl ⟨_, rfl, .inl ⟨_, rfl, gq hb222 rfl⟩⟩ (opv_sub rfl rfl rfl rfl rfl) ?_
        obtain ⟨b230, i231, l232, c233, p229, hp234, h0235, hj236, hv237, H⟩ := H
        refine lk (dt := some 118) R5_14_N rfl rfl ⟨_, rfl, .inl ⟨_, rfl, gq hb222 rfl⟩⟩ (ov_ixS rfl rfl rfl underlying23 sz33 rfl rfl hp234 h0235 hj236 hv237) ?_
        obtain ⟨b239, i240, p238, hp241, hv242, H⟩ := H
        refine lk (dt := some 119) R5_14_N rfl rfl ⟨_, rfl, .inl ⟨_, rfl, gq hb222 rfl⟩⟩ (ov_fldA rfl rfl underlying33 rfl sz3 (by decide) rfl hp241 rfl hv242) ?_
        obtain ⟨b243, i244, x246, hp245, hg247, H⟩ := H
        refine lk (dt := some 120) R5_14_N rfl rfl ⟨_, rfl, .inl ⟨_, rfl, gq hb222 rfl⟩⟩ (ov_ldI rfl underlying3 rfl rfl hp245 hg247) ?_
        refine lk (dt := some 121) R5_14_N rfl rfl ⟨_, rfl, .inl ⟨_, rfl, gq hb222 rfl⟩⟩ (opv_move rfl rfl h0) ?_
        refine lk (dt := some 122) R5_14_N rfl rfl ⟨_, rfl, .inl ⟨_, rfl, gq hb222 rfl⟩⟩ (opv_lenS rfl rfl rfl underlying9 rfl) ?_
        refine lk (dt := some 123) R5_14_N rfl rfl ⟨_, rfl, .inl ⟨_, rfl, gq hb222 rfl⟩⟩ (opv_eqI rfl rfl rfl rfl rfl) ?_
        refine lk (dt := some 124) R5_14_N rfl rfl rfl (ov_pickT rfl rfl rfl rfl rfl hb222 rfl) ?_
        refine lk (dt := some 2) R5_14_N rfl rfl rfl (opv_assign rfl rfl rfl) ?_
        refine aops_nil ?_
        exact ago_retE E5_53 (r := (decide (x246 = (s_0.size : Int)))) (ares_1 rfl (oneT rfl)) rfl H
      · replace H := cnd_f H hb222
        refine lk_skip (dt := some 114) R5_14_N rfl rfl ⟨_, rfl, .inl ⟨_, rfl, gq hb222 rfl⟩⟩ ?_
        refine lk_skip (dt := some 115) R5_14_N rfl rfl ⟨_, rfl, .inl ⟨_, rfl, gq hb222 rfl⟩⟩ ?_
        refine lk_skip (dt := some 116) R5_14_N rfl rfl ⟨_, rfl, .inl ⟨_, rfl, gq hb222 rfl⟩⟩ ?_
        refine lk_skip (dt := some 117) R5_14_N rfl rfl ⟨_, rfl, .inl ⟨_, rfl, gq hb222 rfl⟩⟩ ?_
        refine lk_skip (dt := some 118) R5_14_N rfl rfl ⟨_, rfl, .inl ⟨_, rfl, gq hb222 rfl⟩⟩ ?_
        refine lk_skip (dt := some 119) R5_14_N rfl rfl ⟨_, rfl, .inl ⟨_, rfl, gq hb222 rfl⟩⟩ ?_
        refine lk_skip (dt := some 120) R5_14_N rfl rfl ⟨_, rfl, .inl ⟨_, rfl, gq hb222 rfl⟩⟩ ?_
        refine lk_skip (dt := some 121) R5_14_N rfl rfl ⟨_, rfl, .inl ⟨_, rfl, gq hb222 rfl⟩⟩ ?_
        refine lk_skip (dt := some 122) R5_14_N rfl rfl ⟨_, rfl, .inl ⟨_, rfl, gq hb222 rfl⟩⟩ ?_
        refine lk_skip (dt := some 123) R5_14_N rfl rfl ⟨_, rfl, .inl ⟨_, rfl, gq hb222 rfl⟩⟩ ?_
        refine lk (dt := some 124) R5_14_N rfl rfl rfl (ov_pickF rfl rfl rfl rfl rfl hb222 rfl) ?_
        refine lk (dt := some 2) R5_14_N rfl rfl rfl (opv_assign rfl rfl rfl) ?_
        refine aops_nil ?_
        exact ago_retE E5_53 (r := false) (ares_1 rfl (oneT rfl)) rfl H
    · replace H := cnd_f H hb215
      refine lk_skip (dt := some 109) R5_14_N rfl rfl ⟨_, rfl, .inl ⟨_, rfl, gq hb215 rfl⟩⟩ ?_
      refine lk_skip (dt := some 110) R5_14_N rfl rfl ⟨_, rfl, .inl ⟨_, rfl, gq hb215 rfl⟩⟩ ?_
      refine lk_skip (dt := some 111) R5_14_N rfl rfl ⟨_, rfl, .inl ⟨_, rfl, gq hb215 rfl⟩⟩ ?_
      refine lk (dt := some 112) R5_14_N rfl rfl rfl (ov_pickF rfl rfl rfl rfl rfl hb215 rfl) ?_
      refine lk (dt := some 113) R5_14_N rfl rfl rfl (opv_move rfl rfl rfl) ?_
      refine lk_skip (dt := some 114) R5_14_N rfl rfl ⟨_, rfl, .inl ⟨_, rfl, gq rfl rfl⟩⟩ ?_
      refine lk_skip (dt := some 115) R5_14_N rfl rfl ⟨_, rfl, .inl ⟨_, rfl, gq rfl rfl⟩⟩ ?_
      refine lk_skip (dt := some 116) R5_14_N rfl rfl ⟨_, rfl, .inl ⟨_, rfl, gq rfl rfl⟩⟩ ?_
      refine lk_skip (dt := some 117) R5_14_N rfl rfl ⟨_, rfl, .inl ⟨_, rfl, gq rfl rfl⟩⟩ ?_
      refine lk_skip (dt := some 118) R5_14_N rfl rfl ⟨_, rfl, .inl ⟨_, rfl, gq rfl rfl⟩⟩ ?_
      refine lk_skip (dt := some 119) R5_14_N rfl rfl ⟨_, rfl, .inl ⟨_, rfl, gq rfl rfl⟩⟩ ?_
      refine lk_skip (dt := some 120) R5_14_N rfl rfl ⟨_, rfl, .inl ⟨_, rfl, gq rfl rfl⟩⟩ ?_
      refine lk_skip (dt := some 121) R5_14_N rfl rfl ⟨_, rfl, .inl ⟨_, rfl, gq rfl rfl⟩⟩ ?_
      refine lk_skip (dt := some 122) R5_14_N rfl rfl ⟨_, rfl, .inl ⟨_, rfl, gq rfl rfl⟩⟩ ?_
      refine lk_skip (dt := some 123) R5_14_N rfl rfl ⟨_, rfl, .inl ⟨_, rfl, gq rfl rfl⟩⟩ ?_
      refine lk (dt := some 124) R5_14_N rfl rfl rfl (ov_pickF rfl rfl rfl rfl rfl rfl rfl) ?_
      refine lk (dt := some 2) R5_14_N rfl rfl rfl (opv_assign rfl rfl rfl) ?_
      refine aops_nil ?_
      exact ago_retE E5_53 (r := false) (ares_1 rfl (oneT rfl)) rfl H
theorem S5_1_ok (Q : Bool → AW → Prop) (E : List PanicEntry → AW → Prop)  : ∀ (n : Nat) (ρ : Env) (s_0 : ByteArray) (l_3 : Value) (at_4 : Int) (i_6 : Int) (aw : AW) (h0 : ρ 0 = .string s_0) (h3 : ρ 3 = l_3) (h4 : ρ 4 = .int .i64 at_4) (h6 : ρ 6 = .int .i64 i_6), S5_1 Q E  n s_0 l_3 at_4 i_6 aw →
    AGo prog 125 [.code C5_25, .inLoop C5_25, .inBlock 0, .code C5_51] ρ [] aw (RR prog f5 125 sh5 Q E)
  | 0, _, _, _, _, _, _, _, _, _, _ => fun H => H.elim
  | n + 1, ρ, s_0, l_3, at_4, i_6, aw, h0, h3, h4, h6 => fun H => S5_1s_ok Q E  _ (S5_1_ok Q E  n) ρ s_0 l_3 at_4 i_6 aw h0 h3 h4 h6 H
set_option maxHeartbeats 4000000 in
set_option maxRecDepth 100000 in
theorem S5_0_ok (Q : Bool → AW → Prop) (E : List PanicEntry → AW → Prop)  (ρ : Env) (s_0 : ByteArray) (aw : AW) (h0 : ρ 0 = .string s_0) (H : S5_0 Q E  s_0 aw) :
    AGo prog 125 [.code C5_0] ρ [] aw (RR prog f5 125 sh5 Q E) := by
  unfold S5_0 at H
  refine ago_seqE E5_0 ?_
  refine ago_regE E5_1 (l := [0]) rfl ?_
  refine lk (dt := some 2) R5_0_N rfl rfl rfl (opv_assign rfl rfl rfl) ?_
  refine aops_nil ?_
  refine ago_seqE E5_2 ?_
  refine ago_seqE E5_3 ?_
  refine ago_regE E5_4 (l := [0, 1]) rfl ?_
  refine lk_call (dt := some 8) R5_1_N rfl rfl rfl (opc_of rfl rfl is9 rfl) H (fun _ _ h => ⟨rfl, h⟩) fun r248 aw249 H => ?_
  refine lk (dt := some 9) R5_1_N rfl rfl rfl (opv_not rfl rfl rfl) ?_
  refine aops_nil ?_
  refine ago_condE  E5_5 rfl rfl (fun hb250 => ?_) (fun hb250 => ?_)
  · replace H := cnd_t H hb250
    refine ago_seqE E5_6 ?_
    refine ago_regE E5_7 (l := [0]) rfl ?_
    refine lk (dt := some 2) R5_2_N rfl rfl rfl (opv_assign rfl rfl rfl) ?_
    refine aops_nil ?_
    exact ago_retE E5_8 (r := false) (ares_1 rfl (oneT rfl)) rfl H
  · replace H := cnd_f H hb250
    refine ago_skipE E5_9 ?_
    refine ago_seqE E5_10 ?_
    refine ago_regE E5_11 (l := [0, 1, 2, 3, 4, 5, 6, 7, 8]) rfl ?_
    refine lk (dt := some 11) R5_3_N rfl rfl rfl (opv_move rfl rfl h0) ?_
    refine lk_call (dt := some 12) R5_3_N rfl rfl rfl (opc_of rfl rfl is10 (ma_cons rfl rfl)) H (fun _ _ h => ⟨rfl, h⟩) fun r251 aw252 H => ?_
    refine lk (dt := some 10) R5_3_N rfl rfl rfl (opv_move rfl rfl rfl) ?_
    refine lk (dt := some 13) R5_3_N rfl rfl rfl (opv_extract rfl rfl rfl rfl) ?_
    refine lk (dt := some 14) R5_3_N rfl rfl rfl (opv_extract rfl rfl rfl rfl) ?_
    refine lk (dt := some 15) R5_3_N rfl rfl rfl (opv_extract rfl rfl rfl rfl) ?_
    refine lk (dt := some 3) R5_3_N rfl rfl rfl (opv_assign rfl rfl rfl) ?_
    refine lk (dt := some 4) R5_3_N rfl rfl rfl (opv_assign rfl rfl rfl) ?_
    refine lk (dt := some 5) R5_3_N rfl rfl rfl (opv_assign rfl rfl rfl) ?_
    refine aops_nil ?_
    refine ago_seqE E5_12 ?_
    refine ago_seqE E5_13 ?_
    refine ago_cut (fun ρ => ρ 0 = .string s_0 ∧ ρ 3 = r251.1 ∧ ρ 4 = .int .i64 r251.2.1 ∧ ρ 5 = .int .i64 r251.2.2 ∧ True) ⟨h0, rfl, rfl, rfl, trivial⟩ (fun ρ ⟨h0, h3, h4, h5, _⟩ => ?_)
    refine ago_regE E5_14 (l := [0, 1]) rfl ?_
    refine lk (dt := some 16) R5_4_N rfl rfl rfl (opv_move rfl rfl h5) ?_
    refine lk (dt := some 17) R5_4_N rfl rfl rfl (opv_neI rfl rfl rfl rfl rfl) ?_
    refine aops_nil ?_
    refine ago_condE  E5_15 rfl rfl (fun hb253 => ?_) (fun hb253 => ?_)
    · replace H := cnd_t H hb253
      refine ago_seqE E5_16 ?_
      refine ago_regE E5_17 (l := [0, 1, 2, 3, 4, 5, 6, 7, 8, 9, 10, 11, 12, 13]) rfl ?_
      refine lk (dt := some 18) R5_5_N rfl rfl rfl (opv_move rfl rfl h3) ?_
      obtain ⟨q255, l256, c257, n254, hv258, hn259, H⟩ := H
      refine lk (dt := some 19) R5_5_N rfl rfl rfl (ov_len rfl rfl rfl underlying23 rfl hv258 hn259) ?_
      refine lk (dt := some 20) R5_5_N rfl rfl rfl (opv_eqI rfl rfl rfl rfl rfl) ?_
      refine lk (dt := some 21) R5_5_N rfl rfl rfl (opv_move rfl rfl rfl) ?_
      rcases Bool.eq_false_or_eq_true (decide (n254 = 0)) with hb260 | hb260
      · replace H := cnd_t H hb260
        refine lk (dt := some 22) R5_5_N rfl rfl ⟨_, rfl, .inl ⟨_, rfl, gq hb260 rfl⟩⟩ (opv_move rfl rfl h4) ?_
        refine lk (dt := some 23) R5_5_N rfl rfl ⟨_, rfl, .inl ⟨_, rfl, gq hb260 rfl⟩⟩ (opv_ge rfl rfl rfl rfl rfl) ?_
        refine lk (dt := some 24) R5_5_N rfl rfl rfl (ov_pickT rfl rfl rfl rfl rfl hb260 rfl) ?_
        refine lk (dt := some 25) R5_5_N rfl rfl rfl (opv_move rfl rfl rfl) ?_
        rcases Bool.eq_false_or_eq_true (decide (0 ≤ r251.2.1)) with hb261 | hb261
        · replace H := cnd_t H hb261
          refine lk (dt := some 26) R5_5_N rfl rfl ⟨_, rfl, .inl ⟨_, rfl, gq hb261 rfl⟩⟩ (opv_move rfl rfl h4) ?_
          refine lk (dt := some 27) R5_5_N rfl rfl ⟨_, rfl, .inl ⟨_, rfl, gq hb261 rfl⟩⟩ (opv_move rfl rfl h0) ?_
          refine lk (dt := some 28) R5_5_N rfl rfl ⟨_, rfl, .inl ⟨_, rfl, gq hb261 rfl⟩⟩ (opv_lenS rfl rfl rfl underlying9 rfl) ?_
          refine lk (dt := some 29) R5_5_N rfl rfl ⟨_, rfl, .inl ⟨_, rfl, gq hb261 rfl⟩⟩ (opv_le rfl rfl rfl rfl rfl) ?_
          refine lk (dt := some 30) R5_5_N rfl rfl rfl (ov_pickT rfl rfl rfl rfl rfl hb261 rfl) ?_
          refine lk (dt := some 2) R5_5_N rfl rfl rfl (opv_assign rfl rfl rfl) ?_
          refine aops_nil ?_
          exact ago_retE E5_18 (r := (decide (r251.2.1 ≤ (s_0.size : Int)))) (ares_1 rfl (oneT rfl)) rfl H
        · replace H := cnd_f H hb261
          refine lk_skip (dt := some 26) R5_5_N rfl rfl ⟨_, rfl, .inl ⟨_, rfl, gq hb261 rfl⟩⟩ ?_
          refine lk_skip (dt := some 27) R5_5_N rfl rfl ⟨_, rfl, .inl ⟨_, rfl, gq hb261 rfl⟩⟩ ?_
          refine lk_skip (dt := some 28) R5_5_N rfl rfl ⟨_, rfl, .inl ⟨_, rfl, gq hb261 rfl⟩⟩ ?_
          refine lk_skip (dt := some 29) R5_5_N rfl rfl ⟨_, rfl, .inl ⟨_, rfl, gq hb261 rfl⟩⟩ ?_
          refine lk (dt := some 30) R5_5_N rfl rfl rfl (ov_pickF rfl rfl rfl rfl rfl hb261 rfl) ?_
          refine lk (dt := some 2) R5_5_N rfl rfl rfl (opv_assign rfl rfl rfl) ?_
          refine aops_nil ?_
          exact ago_retE E5_18 (r := false) (ares_1 rfl (oneT rfl)) rfl H
      · replace H := cnd_f H hb260
        refine lk_skip (dt := some 22) R5_5_N rfl rfl ⟨_, rfl, .inl ⟨_, rfl, gq hb260 rfl⟩⟩ ?_
        refine lk_skip (dt := some 23) R5_5_N rfl rfl ⟨_, rfl, .inl ⟨_, rfl, gq hb260 rfl⟩⟩ ?_
        refine lk (dt := some 24) R5_5_N rfl rfl rfl (ov_pickF rfl rfl rfl rfl rfl hb260 rfl) ?_
        refine lk (dt := some 25) R5_5_N rfl rfl rfl (opv_move rfl rfl rfl) ?_
        refine lk_skip (dt := some 26) R5_5_N rfl rfl ⟨_, rfl, .inl ⟨_, rfl, gq rfl rfl⟩⟩ ?_
        refine lk_skip (dt := some 27) R5_5_N rfl rfl ⟨_, rfl, .inl ⟨_, rfl, gq rfl rfl⟩⟩ ?_
        refine lk_skip (dt := some 28) R5_5_N rfl rfl ⟨_, rfl, .inl ⟨_, rfl, gq rfl rfl⟩⟩ ?_
        refine lk_skip (dt := some 29) R5_5_N rfl rfl ⟨_, rfl, .inl ⟨_, rfl, gq rfl rfl⟩⟩ ?_
        refine lk (dt := some 30) R5_5_N rfl rfl rfl (ov_pickF rfl rfl rfl rfl rfl rfl rfl) ?_
        refine lk (dt := some 2) R5_5_N rfl rfl rfl (opv_assign rfl rfl rfl) ?_
        refine aops_nil ?_
        exact ago_retE E5_18 (r := false) (ares_1 rfl (oneT rfl)) rfl H
    · replace H := cnd_f H hb253
      refine ago_skipE E5_19 ?_
      refine ago_seqE E5_20 ?_
      refine ago_seqE E5_21 ?_
      refine ago_regE E5_22 (l := [0]) rfl ?_
      refine lk (dt := some 6) R5_6_N rfl rfl rfl (opv_assign rfl rfl rfl) ?_
      refine aops_nil ?_
      refine ago_blockE E5_23 ?_
      refine ago_loopE E5_24 ?_
      obtain ⟨n, H⟩ := H
      exact S5_1_ok Q E  n _ s_0 r251.1 r251.2.1 0 aw252 h0 h3 h4 rfl H
theorem F5_ok {Q : Bool → AW → Prop} {E : List PanicEntry → AW → Prop} (s_0 : ByteArray) (aw : AW) (H : S5_0 Q E s_0 aw) : CallP prog 5 [.string s_0] aw sh5 Q E :=
  callP_of func5 C5_is rfl (Nat.le_of_ble_eq_true rfl) (S5_0_ok Q E _ s_0 aw rfl H)
end Go.Proofs.Tryd
