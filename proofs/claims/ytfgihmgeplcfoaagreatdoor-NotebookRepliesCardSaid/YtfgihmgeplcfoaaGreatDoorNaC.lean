/- Printed by a program of the prover: what the Go functions of this seat do, in steps. -/
import Derived.Test.YtfgihmgeplcfoaaGreatDoorNaF
import Derived.Test.YtfgihmgeplcfoaaGreatDoorNaA
set_option linter.unusedSectionVars false
set_option linter.unusedSimpArgs false
set_option linter.unusedVariables false
namespace Go.Proofs.Tryz
open Go Go.Am Go.RowKit
set_option maxHeartbeats 4000000
set_option maxRecDepth 100000
noncomputable section
variable [SymE]
def C7_0 := bodyOf f7
theorem C7_is : f7.body = some C7_0 := by kernel_rfl
def C7_1 := cl C7_0
def R7_0 := regOps C7_1
def C7_2 := cr C7_0
def C7_3 := cl C7_2
def R7_1 := regOps C7_3
def C7_4 := cr C7_2
def C7_5 := cl C7_4
def R7_2 := regOps C7_5
def C7_6 := cr C7_4
def C7_7 := cl C7_6
def C7_8 := cl C7_7
def R7_3 := regOps C7_8
def C7_9 := cr C7_7
def C7_10 := cl C7_9
def C7_11 := cl C7_10
def C7_12 := cl C7_11
def C7_13 := cl C7_12
def R7_4 := regOps C7_13
def C7_14 := cr C7_12
def C7_15 := cl C7_14
def C7_16 := cr C7_14
def C7_17 := cr C7_11
def C7_18 := cl C7_17
def C7_19 := cl C7_18
def R7_6 := regOps C7_19
def C7_20 := cr C7_17
def R7_5 := regOps C7_20
def C7_21 := cr C7_6
def C7_22 := cl C7_21
def R7_7 := regOps C7_22
def C7_23 := cr C7_21
def C7_24 := cl C7_23
def C7_25 := cl C7_24
def R7_8 := regOps C7_25
def C7_26 := cr C7_24
def C7_27 := cl C7_26
def C7_28 := cl C7_27
def C7_29 := cl C7_28
def C7_30 := cl C7_29
def R7_9 := regOps C7_30
def C7_31 := cr C7_29
def C7_32 := cl C7_31
def C7_33 := cr C7_31
def C7_34 := cr C7_28
def C7_35 := cl C7_34
def C7_36 := cl C7_35
def R7_11 := regOps C7_36
def C7_37 := cr C7_34
def R7_10 := regOps C7_37
def C7_38 := cr C7_23
def C7_39 := cl C7_38
def C7_40 := cl C7_39
def R7_12 := regOps C7_40
def C7_41 := cr C7_39
def C7_42 := cl C7_41
def C7_43 := cl C7_42
def R7_13 := regOps C7_43
def C7_44 := cr C7_42
def C7_45 := cr C7_41
def C7_46 := cr C7_38
def C7_47 := cl C7_46
def R7_14 := regOps C7_47
def C7_48 := cr C7_46
theorem R7_0_N : dstsOk 70 R7_0 = true := by decide +kernel
theorem R7_1_N : dstsOk 70 R7_1 = true := by decide +kernel
theorem R7_2_N : dstsOk 70 R7_2 = true := by decide +kernel
theorem R7_3_N : dstsOk 70 R7_3 = true := by decide +kernel
theorem R7_4_N : dstsOk 70 R7_4 = true := by decide +kernel
theorem R7_6_N : dstsOk 70 R7_6 = true := by decide +kernel
theorem R7_6_O : linOk R7_6 [0, 1, 2, 4, 6] [(3, [0, 1, 4, 6], []), (5, [0, 1, 6], []), (7, [0, 1], [8]), (9, [0, 1], []), (10, [], [11]), (12, [], [])] = true := by decide +kernel
theorem R7_5_N : dstsOk 70 R7_5 = true := by decide +kernel
theorem R7_7_N : dstsOk 70 R7_7 = true := by decide +kernel
theorem R7_8_N : dstsOk 70 R7_8 = true := by decide +kernel
theorem R7_9_N : dstsOk 70 R7_9 = true := by decide +kernel
theorem R7_11_N : dstsOk 70 R7_11 = true := by decide +kernel
theorem R7_11_O : linOk R7_11 [0, 1, 2, 5] [(3, [0, 1, 5], [4]), (6, [0, 1, 4], [7]), (8, [0, 1], []), (9, [], [10]), (11, [], [])] = true := by decide +kernel
theorem R7_10_N : dstsOk 70 R7_10 = true := by decide +kernel
theorem R7_12_N : dstsOk 70 R7_12 = true := by decide +kernel
theorem R7_13_N : dstsOk 70 R7_13 = true := by decide +kernel
theorem R7_14_N : dstsOk 70 R7_14 = true := by decide +kernel
def S7_4 (Q : (Int × Int × ByteArray × Value × ByteArray × Value × Int) → AW → Prop) (E : List PanicEntry → AW → Prop) (nx3 : Value → Value → Value → Int → AW → Prop) (t_2 : Value) (r_4 : Value) (o_5 : Value) (n_7 : Int) (t_51 : Bool) (aw : AW) : Prop :=
  cnd t_51 (fldA o_5 5 fun p2 =>
  ldV aw p2 fun x10 =>
  CallP prog 20 [r_4, .int .i64 1] aw sh20 (fun r12 aw13 =>
  again1 aw13 p2 (x10) ∧ CallP prog 18 [r_4] aw13 sh18 (fun r14 aw15 =>
  again1 aw15 p2 (x10) ∧ alcS aw15 [.bool (decide (r12 = 1)), .int .i64 r14] 52 2 1 fun p16 aw17 =>
  again1 aw17 p2 (x10) ∧ app aw17 52 2 16 x10 p16 fun v20 aw21 =>
  fldA o_5 5 fun p23 =>
  st aw21 p23 [v20] fun aw28 =>
  nx3 t_2 r_4 o_5 (IntKind.i64.wrap (n_7 - 1)) aw28) E) E) (CallP prog 22 [r_4] aw sh22 (fun r35 aw36 =>
  cnd (!r35) (st aw36 t_2 [.int .i64 0, .int .i64 0, .string (⟨#[]⟩ : ByteArray), (.slice none 0 0), .string (⟨#[]⟩ : ByteArray), (.slice none 0 0)] fun aw38 =>
  ptr t_2 fun b45 i46 => gI .i64 aw38 b45 i46 fun c48 => gI .i64 aw38 b45 (i46 + 1) fun c49 => gS aw38 b45 (i46 + 2) fun c50 => gV aw38 b45 (i46 + 3) fun c51 => gS aw38 b45 (i46 + 4) fun c52 => gV aw38 b45 (i46 + 5) fun c53 => Q (c48, c49, c50, c51, c52, c53, 3) aw38) (ptr o_5 fun b60 i61 =>
  gI .i64 aw36 b60 i61 fun c63 =>
  gI .i64 aw36 b60 (i61 + 1) fun c64 =>
  gS aw36 b60 (i61 + 2) fun c65 =>
  gV aw36 b60 (i61 + 3) fun c66 =>
  gS aw36 b60 (i61 + 4) fun c67 =>
  gV aw36 b60 (i61 + 5) fun c68 =>
  st aw36 t_2 [.int .i64 c63, .int .i64 c64, .string c65, c66, .string c67, c68] fun aw75 =>
  ptr t_2 fun b82 i83 => gI .i64 aw75 b82 i83 fun c85 => gI .i64 aw75 b82 (i83 + 1) fun c86 => gS aw75 b82 (i83 + 2) fun c87 => gV aw75 b82 (i83 + 3) fun c88 => gS aw75 b82 (i83 + 4) fun c89 => gV aw75 b82 (i83 + 5) fun c90 => Q (c85, c86, c87, c88, c89, c90, 0) aw75)) E)
def S7_3s (Q : (Int × Int × ByteArray × Value × ByteArray × Value × Int) → AW → Prop) (E : List PanicEntry → AW → Prop)  (nx3 : Value → Value → Value → Int → AW → Prop) (t_2 : Value) (r_4 : Value) (o_5 : Value) (n_7 : Int) (aw : AW) : Prop :=
  cnd (decide (0 < n_7)) (CallP prog 21 [r_4] aw sh21 (fun r98 aw99 =>
  S7_4 Q E nx3 t_2 r_4 o_5 n_7 (!r98) aw99) E) (S7_4 Q E nx3 t_2 r_4 o_5 n_7 false aw)
def S7_3 (Q : (Int × Int × ByteArray × Value × ByteArray × Value × Int) → AW → Prop) (E : List PanicEntry → AW → Prop)  : Nat → Value → Value → Value → Int → AW → Prop
  | 0 => fun _ _ _ _ _ => False
  | n + 1 => S7_3s Q E  (S7_3 Q E  n)
def S7_2 (Q : (Int × Int × ByteArray × Value × ByteArray × Value × Int) → AW → Prop) (E : List PanicEntry → AW → Prop) (nx1 : Value → Value → Value → Int → AW → Prop) (t_2 : Value) (r_4 : Value) (o_5 : Value) (n_6 : Int) (t_25 : Bool) (aw : AW) : Prop :=
  cnd t_25 (fldA o_5 3 fun p101 =>
  ldV aw p101 fun x109 =>
  CallP prog 19 [r_4, .int .i64 1048576] aw sh19 (fun r111 aw112 =>
  again1 aw112 p101 (x109) ∧ CallP prog 19 [r_4, .int .i64 1048576] aw112 sh19 (fun r113 aw114 =>
  again1 aw114 p101 (x109) ∧ CallP prog 19 [r_4, .int .i64 1048576] aw114 sh19 (fun r115 aw116 =>
  again1 aw116 p101 (x109) ∧ alcS aw116 [.string r111, .string r113, .string r115] 29 3 1 fun p117 aw118 =>
  again1 aw118 p101 (x109) ∧ app aw118 29 3 48 x109 p117 fun v121 aw122 =>
  fldA o_5 3 fun p124 =>
  st aw122 p124 [v121] fun aw129 =>
  nx1 t_2 r_4 o_5 (IntKind.i64.wrap (n_6 - 1)) aw129) E) E) E) (CallP prog 19 [r_4, .int .i64 1048576] aw sh19 (fun r136 aw137 =>
  fldA o_5 4 fun p138 =>
  st aw137 p138 [.string r136] fun aw143 =>
  CallP prog 20 [r_4, .int .i64 65536] aw143 sh20 (fun r150 aw151 =>
  ∃ n, S7_3 Q E  n t_2 r_4 o_5 r150 aw151) E) E)
def S7_1s (Q : (Int × Int × ByteArray × Value × ByteArray × Value × Int) → AW → Prop) (E : List PanicEntry → AW → Prop)  (nx1 : Value → Value → Value → Int → AW → Prop) (t_2 : Value) (r_4 : Value) (o_5 : Value) (n_6 : Int) (aw : AW) : Prop :=
  cnd (decide (0 < n_6)) (CallP prog 21 [r_4] aw sh21 (fun r153 aw154 =>
  S7_2 Q E nx1 t_2 r_4 o_5 n_6 (!r153) aw154) E) (S7_2 Q E nx1 t_2 r_4 o_5 n_6 false aw)
def S7_1 (Q : (Int × Int × ByteArray × Value × ByteArray × Value × Int) → AW → Prop) (E : List PanicEntry → AW → Prop)  : Nat → Value → Value → Value → Int → AW → Prop
  | 0 => fun _ _ _ _ _ => False
  | n + 1 => S7_1s Q E  (S7_1 Q E  n)
def S7_0 (Q : (Int × Int × ByteArray × Value × ByteArray × Value × Int) → AW → Prop) (E : List PanicEntry → AW → Prop)  (p_0 : Value) (aw : AW) : Prop :=
  alc aw [.int .i64 0, .int .i64 0, .string (⟨#[]⟩ : ByteArray), (.slice none 0 0), .string (⟨#[]⟩ : ByteArray), (.slice none 0 0)] 26 0 fun p155 aw156 =>
  CallP prog 17 [p_0] aw156 sh17 (fun r159 aw160 =>
  CallP prog 18 [r159] aw160 sh18 (fun r161 aw162 =>
  CallP prog 18 [r159] aw162 sh18 (fun r163 aw164 =>
  CallP prog 19 [r159, .int .i64 1048576] aw164 sh19 (fun r165 aw166 =>
  alc aw166 [.int .i64 0, .int .i64 0, .string (⟨#[]⟩ : ByteArray), (.slice none 0 0), .string (⟨#[]⟩ : ByteArray), (.slice none 0 0)] 26 0 fun p167 aw168 =>
  st aw168 p167 [.int .i64 r161, .int .i64 r163, .string r165, (.slice none 0 0), .string (⟨#[]⟩ : ByteArray), (.slice none 0 0)] fun aw171 =>
  CallP prog 20 [r159, .int .i64 65536] aw171 sh20 (fun r178 aw179 =>
  ∃ n, S7_1 Q E  n p155 r159 p167 r178 aw179) E) E) E) E) E
theorem S7_4_ok (Q : (Int × Int × ByteArray × Value × ByteArray × Value × Int) → AW → Prop) (E : List PanicEntry → AW → Prop) (nx3 : Value → Value → Value → Int → AW → Prop) (L3 : ∀ (ρ : Env) (t_2 : Value) (r_4 : Value) (o_5 : Value) (n_7 : Int) (aw : AW) (h2 : ρ 2 = t_2) (h4 : ρ 4 = r_4) (h5 : ρ 5 = o_5) (h7 : ρ 7 = .int .i64 n_7), nx3 t_2 r_4 o_5 n_7 aw → AGo prog 70 [.code C7_28, .inLoop C7_28, .inBlock 2, .code C7_38] ρ [] aw (RR prog f7 70 sh7 Q E)) (ρ : Env) (t_2 : Value) (r_4 : Value) (o_5 : Value) (n_7 : Int) (t_51 : Bool) (aw : AW) (h2 : ρ 2 = t_2) (h4 : ρ 4 = r_4) (h5 : ρ 5 = o_5) (h7 : ρ 7 = .int .i64 n_7) (h51 : ρ 51 = .bool t_51) (H : S7_4 Q E nx3 t_2 r_4 o_5 n_7 t_51 aw) :
    AGo prog 70 [.code C7_31, .code C7_34, .inLoop C7_28, .inBlock 2, .code C7_38] ρ [] aw (RR prog f7 70 sh7 Q E) := by
  unfold S7_4 at H
  refine ago_condE  (rfl : C7_31 = .cond (.tmp 51) C7_32 C7_33) rfl h51 (fun hb1 => ?_) (fun hb1 => ?_)
  · replace H := cnd_t H hb1
    refine ago_skipE (rfl : C7_32 = .skip) ?_
    refine ago_seqE (rfl : C7_34 = .seq C7_35 C7_37) ?_
    refine ago_blockE (rfl : C7_35 = .block 3 C7_36) ?_
    obtain ⟨b3, i4, p2, hp5, hv6, H⟩ := H
    obtain ⟨b7, i8, x10, hp9, hg11, H⟩ := H
    refine ago_drawH (p := [0, 1, 2, 5]) (tl := [(3, [0, 1, 5], [4]), (6, [0, 1, 4], [7]), (8, [0, 1], []), (9, [], [10]), (11, [], [])]) (hv := [(0, p2), (1, x10), (2, r_4), (5, r_4)]) (rfl : C7_36 = .region 11 R7_11 true) mixed R7_11_N R7_11_O rfl (pv_cons rfl (pv_cons rfl (pv_cons rfl (pv_cons rfl (pv_nil _)))))
      (fc 54 p2 (hd_v rfl fun ρ hρ => ⟨rfl, ov_fldA rfl rfl underlying26 rfl sz24 (by decide) ((hρ 5 (lmem rfl)).trans h5) hp5 rfl hv6⟩) rfl rfl
      (fc 55 x10 (hd_v rfl fun ρ hρ => ⟨rfl, ov_ldV rfl underlying24 rfl rfl ((hρ 54 (lmem rfl)).trans rfl) hp9 hg11⟩) rfl rfl
      (fc 56 r_4 (hd_v rfl fun ρ hρ => ⟨rfl, opv_move rfl rfl ((hρ 4 (lmem rfl)).trans h4)⟩) rfl rfl
      (fc 59 r_4 (hd_v rfl fun ρ hρ => ⟨rfl, opv_move rfl rfl ((hρ 4 (lmem rfl)).trans h4)⟩) rfl rfl
      ffn)))) ?_
    refine lt_call (dt := some 57) rfl rfl (fun ρ hρ => ⟨rfl, opc_of rfl rfl is20 (ma_cons ((hρ 56 (lmem rfl)).trans rfl) (ma_cons rfl rfl))⟩) H (fun _ _ h _ => ⟨rfl, h⟩) fun r12 aw13 H => ?_
    obtain ⟨hg11, H⟩ := H
    replace hg11 := hg11 _ _ hp9
    refine lt_next (l := [0, 1, 5, 4]) (hv := [(4, Value.bool (decide (r12 = 1)))]) rfl rfl (pv_cons rfl (pv_nil _))
      (fc 54 p2 (hd_v rfl fun ρ hρ => ⟨rfl, ov_fldA rfl rfl underlying26 rfl sz24 (by decide) ((hρ 5 (lmem rfl)).trans h5) hp5 rfl hv6⟩) rfl rfl
      (fc 55 x10 (hd_v rfl fun ρ hρ => ⟨rfl, ov_ldV rfl underlying24 rfl rfl ((hρ 54 (lmem rfl)).trans rfl) hp9 hg11⟩) rfl rfl
      (fc 59 r_4 (hd_v rfl fun ρ hρ => ⟨rfl, opv_move rfl rfl ((hρ 4 (lmem rfl)).trans h4)⟩) rfl rfl
      (fc 58 (.bool (decide (r12 = 1))) (hd_v rfl fun ρ hρ => ⟨rfl, opv_eqI rfl rfl rfl ((hρ 57 (lmem rfl)).trans rfl) rfl⟩) rfl rfl
      ffn)))) ?_
    refine lt_call (dt := some 60) rfl rfl (fun ρ hρ => ⟨rfl, opc_of rfl rfl is18 (ma_cons ((hρ 59 (lmem rfl)).trans rfl) rfl)⟩) H (fun _ _ h _ => ⟨rfl, h⟩) fun r14 aw15 H => ?_
    obtain ⟨hg11, H⟩ := H
    replace hg11 := hg11 _ _ hp9
    refine lt_next (l := [0, 1, 4, 7]) (hv := [(7, Value.agg #[.bool (decide (r12 = 1)), .int .i64 r14])]) rfl rfl (pv_cons rfl (pv_nil _))
      (fc 54 p2 (hd_v rfl fun ρ hρ => ⟨rfl, ov_fldA rfl rfl underlying26 rfl sz24 (by decide) ((hρ 5 (lmem rfl)).trans h5) hp5 rfl hv6⟩) rfl rfl
      (fc 55 x10 (hd_v rfl fun ρ hρ => ⟨rfl, ov_ldV rfl underlying24 rfl rfl ((hρ 54 (lmem rfl)).trans rfl) hp9 hg11⟩) rfl rfl
      (fc 58 (.bool (decide (r12 = 1))) (hd_v rfl fun ρ hρ => ⟨rfl, opv_eqI rfl rfl rfl ((hρ 57 (lmem rfl)).trans rfl) rfl⟩) rfl rfl
      (fc 61 (.agg #[.bool (decide (r12 = 1)), .int .i64 r14]) (hd_v rfl fun ρ hρ => ⟨rfl, ov_bld (r := [.bool (decide (r12 = 1)), .int .i64 r14]) rfl rfl bo52 (mp_cons ((hρ 58 (lmem rfl)).trans rfl) (mp_cons ((hρ 60 (lmem rfl)).trans rfl) rfl)) (fillP rfl rfl rfl rfl (fillP rfl rfl rfl rfl (fillN rfl)))⟩) rfl rfl
      ffn)))) ?_
    obtain ⟨p16, aw17, hp18, ha19, H⟩ := H
    refine lt_val (dt := some 62) (v := p16) rfl rfl (fun ρ hρ => ⟨rfl, ov_bsA (r := [.bool (decide (r12 = 1)), .int .i64 r14]) (vs := [.agg #[.bool (decide (r12 = 1)), .int .i64 r14]]) rfl rfl underlying24 sz52 z52 rfl rfl rfl rfl rfl (mp_cons ((hρ 61 (lmem rfl)).trans rfl) rfl) (.cons (v := .agg #[.bool (decide (r12 = 1)), .int .i64 r14]) (xs := [.bool (decide (r12 = 1)), .int .i64 r14]) (r := []) rfl rfl .nil) hp18 ha19⟩) ?_
    obtain ⟨hg11, H⟩ := H
    replace hg11 := hg11 _ _ hp9
    refine lt_next (l := [0, 1]) (hv := []) rfl rfl (pv_nil _)
      (fc 54 p2 (hd_v rfl fun ρ hρ => ⟨rfl, ov_fldA rfl rfl underlying26 rfl sz24 (by decide) ((hρ 5 (lmem rfl)).trans h5) hp5 rfl hv6⟩) rfl rfl
      (fc 55 x10 (hd_v rfl fun ρ hρ => ⟨rfl, ov_ldV rfl underlying24 rfl rfl ((hρ 54 (lmem rfl)).trans rfl) hp9 hg11⟩) rfl rfl
      ffn)) ?_
    obtain ⟨v20, aw21, hq22, H⟩ := H
    refine lt_val (dt := some 63) (v := v20) rfl rfl (fun ρ hρ => ⟨rfl, ov_app rfl rfl rfl rfl underlying24 sz52 by52 underlying24 rfl z52 rfl (by decide) (by decide) ((hρ 55 (lmem rfl)).trans rfl) ((hρ 62 (lmem rfl)).trans rfl) hq22⟩) ?_
    obtain ⟨b24, i25, p23, hp26, hv27, H⟩ := H
    refine lt_next (l := [10]) (hv := [(10, p23)]) rfl rfl (pv_cons rfl (pv_nil _))
      (fc 64 p23 (hd_v rfl fun ρ hρ => ⟨rfl, ov_fldA rfl rfl underlying26 rfl sz24 (by decide) ((hρ 5 (lmem rfl)).trans h5) hp26 rfl hv27⟩) rfl rfl
      ffn) ?_
    obtain ⟨b29, i30, aw28, hp31, hw32, ho33, ha34, H⟩ := H
    refine lt_val (dt := none) (v := undef) rfl rfl (fun ρ hρ => ⟨rfl, ov_st rfl rfl rfl ((hρ 64 (lmem rfl)).trans rfl) ((hρ 63 (lmem rfl)).trans rfl) (cells_all ho33) sz24 hp31 hw32 ho33 ha34⟩) ?_
    refine lt_next (l := []) (hv := []) rfl rfl (pv_nil _)
      ffn ?_
    refine lt_end ?_
    refine ago_inBlock ?_
    refine ago_cut (fun ρ => ρ 2 = t_2 ∧ ρ 4 = r_4 ∧ ρ 5 = o_5 ∧ ρ 7 = .int .i64 n_7 ∧ True) ⟨h2, h4, h5, h7, trivial⟩ (fun ρ ⟨h2, h4, h5, h7, _⟩ => ?_)
    refine ago_regE (rfl : C7_37 = .region 10 R7_10 false) (l := [0, 1, 2]) rfl ?_
    refine lj 52 R7_10_N rfl rfl rfl (opv_move rfl rfl h7) ?_
    refine lj 53 R7_10_N rfl rfl rfl (opv_sub rfl rfl rfl rfl rfl) ?_
    refine lj 7 R7_10_N rfl rfl rfl (opv_assign rfl rfl rfl) ?_
    refine aops_nil ?_
    refine ago_inLoop ?_
    exact L3 _ t_2 r_4 o_5 (IntKind.i64.wrap (n_7 - 1)) aw28 h2 h4 h5 rfl H
  replace H := cnd_f H hb1
  refine ago_exitE (rfl : C7_33 = .exit 2) rfl ?_
  refine ago_seqE (rfl : C7_38 = .seq C7_39 C7_46) ?_
  refine ago_seqE (rfl : C7_39 = .seq C7_40 C7_41) ?_
  refine ago_regE (rfl : C7_40 = .region 12 R7_12 false) (l := [0, 1, 2]) rfl ?_
  refine lj 65 R7_12_N rfl rfl rfl (opv_move rfl rfl h4) ?_
  refine lc 66 R7_12_N rfl rfl rfl (opc_of rfl rfl is22 (ma_cons rfl rfl)) H (fun _ _ h => ⟨rfl, h⟩) fun r35 aw36 H => ?_
  refine lj 67 R7_12_N rfl rfl rfl (opv_not rfl rfl rfl) ?_
  refine aops_nil ?_
  refine ago_condE  (rfl : C7_41 = .cond (.tmp 67) C7_42 C7_45) rfl rfl (fun hb37 => ?_) (fun hb37 => ?_)
  · replace H := cnd_t H hb37
    refine ago_seqE (rfl : C7_42 = .seq C7_43 C7_44) ?_
    refine ago_regE (rfl : C7_43 = .region 13 R7_13 false) (l := [0, 1, 2]) rfl ?_
    refine lj 68 R7_13_N rfl rfl rfl (ov_bld (r := [.int .i64 0, .int .i64 0, .string (⟨#[]⟩ : ByteArray), (.slice none 0 0), .string (⟨#[]⟩ : ByteArray), (.slice none 0 0)]) rfl rfl bo26 rfl (fillN rfl)) ?_
    obtain ⟨b39, i40, aw38, hp41, hw42, ho43, ha44, H⟩ := H
    refine lk (dt := none) R7_13_N rfl rfl rfl (ov_st rfl rfl rfl h2 rfl rfl sz26 hp41 hw42 ho43 ha44) ?_
    refine lj 3 R7_13_N rfl rfl rfl (opv_assign rfl rfl rfl) ?_
    refine aops_nil ?_
    obtain ⟨b45, i46, hp47, c48, hg54, c49, hg55, c50, hg56, c51, hg57, c52, hg58, c53, hg59, H⟩ := H
    exact ago_retE (rfl : C7_44 = .ret) (r := (c48, c49, c50, c51, c52, c53, 3)) (ares_2 rfl (oneN h2 hp47 underlying26 rfl sz26 (getN_cons hg54 (getN_cons hg55 (getN_cons hg56 (getN_cons hg57 (getN_cons hg58 (getN_cons hg59 getN_nil))))))) (oneT rfl)) rfl H
  replace H := cnd_f H hb37
  refine ago_skipE (rfl : C7_45 = .skip) ?_
  refine ago_seqE (rfl : C7_46 = .seq C7_47 C7_48) ?_
  refine ago_regE (rfl : C7_47 = .region 14 R7_14 false) (l := [0, 1, 2]) rfl ?_
  obtain ⟨b60, i61, hp62, c63, hg69, c64, hg70, c65, hg71, c66, hg72, c67, hg73, c68, hg74, H⟩ := H
  refine lj 69 R7_14_N rfl rfl rfl (ov_ldN rfl underlying26 rfl sz26 rfl h5 hp62 (getN_cons hg69 (getN_cons hg70 (getN_cons hg71 (getN_cons hg72 (getN_cons hg73 (getN_cons hg74 getN_nil))))))) ?_
  obtain ⟨b76, i77, aw75, hp78, hw79, ho80, ha81, H⟩ := H
  refine lk (dt := none) R7_14_N rfl rfl rfl (ov_st rfl rfl rfl h2 rfl rfl sz26 hp78 hw79 ho80 ha81) ?_
  refine lj 3 R7_14_N rfl rfl rfl (opv_assign rfl rfl rfl) ?_
  refine aops_nil ?_
  obtain ⟨b82, i83, hp84, c85, hg91, c86, hg92, c87, hg93, c88, hg94, c89, hg95, c90, hg96, H⟩ := H
  exact ago_retE (rfl : C7_48 = .ret) (r := (c85, c86, c87, c88, c89, c90, 0)) (ares_2 rfl (oneN h2 hp84 underlying26 rfl sz26 (getN_cons hg91 (getN_cons hg92 (getN_cons hg93 (getN_cons hg94 (getN_cons hg95 (getN_cons hg96 getN_nil))))))) (oneT rfl)) rfl H
theorem S7_3s_ok (Q : (Int × Int × ByteArray × Value × ByteArray × Value × Int) → AW → Prop) (E : List PanicEntry → AW → Prop)  (nx3 : Value → Value → Value → Int → AW → Prop) (L3 : ∀ (ρ : Env) (t_2 : Value) (r_4 : Value) (o_5 : Value) (n_7 : Int) (aw : AW) (h2 : ρ 2 = t_2) (h4 : ρ 4 = r_4) (h5 : ρ 5 = o_5) (h7 : ρ 7 = .int .i64 n_7), nx3 t_2 r_4 o_5 n_7 aw → AGo prog 70 [.code C7_28, .inLoop C7_28, .inBlock 2, .code C7_38] ρ [] aw (RR prog f7 70 sh7 Q E)) (ρ : Env) (t_2 : Value) (r_4 : Value) (o_5 : Value) (n_7 : Int) (aw : AW) (h2 : ρ 2 = t_2) (h4 : ρ 4 = r_4) (h5 : ρ 5 = o_5) (h7 : ρ 7 = .int .i64 n_7) (H : S7_3s Q E  nx3 t_2 r_4 o_5 n_7 aw) :
    AGo prog 70 [.code C7_28, .inLoop C7_28, .inBlock 2, .code C7_38] ρ [] aw (RR prog f7 70 sh7 Q E) := by
  unfold S7_3s at H
  refine ago_seqE (rfl : C7_28 = .seq C7_29 C7_34) ?_
  refine ago_seqE (rfl : C7_29 = .seq C7_30 C7_31) ?_
  refine ago_regE (rfl : C7_30 = .region 9 R7_9 false) (l := [0, 1, 2, 3, 4, 5, 6]) rfl ?_
  refine lj 45 R7_9_N rfl rfl rfl (opv_move rfl rfl h7) ?_
  refine lj 46 R7_9_N rfl rfl rfl (opv_gt rfl rfl rfl rfl rfl) ?_
  refine lj 47 R7_9_N rfl rfl rfl (opv_move rfl rfl rfl) ?_
  rcases Bool.eq_false_or_eq_true (decide (0 < n_7)) with hb97 | hb97
  · replace H := cnd_t H hb97
    refine lj 48 R7_9_N rfl rfl ⟨_, rfl, .inl ⟨_, rfl, gq hb97 rfl⟩⟩ (opv_move rfl rfl h4) ?_
    refine lc 49 R7_9_N rfl rfl ⟨_, rfl, .inl ⟨_, rfl, gq hb97 rfl⟩⟩ (opc_of rfl rfl is21 (ma_cons rfl rfl)) H (fun _ _ h => ⟨rfl, h⟩) fun r98 aw99 H => ?_
    refine lj 50 R7_9_N rfl rfl ⟨_, rfl, .inl ⟨_, rfl, gq hb97 rfl⟩⟩ (opv_not rfl rfl rfl) ?_
    refine lj 51 R7_9_N rfl rfl rfl (ov_pickT rfl rfl rfl rfl rfl hb97 rfl) ?_
    refine aops_nil ?_
    exact S7_4_ok Q E nx3 L3 _ t_2 r_4 o_5 n_7 (!r98) aw99 h2 h4 h5 h7 rfl H
  · replace H := cnd_f H hb97
    refine ls 48 R7_9_N rfl rfl ⟨_, rfl, .inl ⟨_, rfl, gq hb97 rfl⟩⟩ ?_
    refine ls 49 R7_9_N rfl rfl ⟨_, rfl, .inl ⟨_, rfl, gq hb97 rfl⟩⟩ ?_
    refine ls 50 R7_9_N rfl rfl ⟨_, rfl, .inl ⟨_, rfl, gq hb97 rfl⟩⟩ ?_
    refine lj 51 R7_9_N rfl rfl rfl (ov_pickF rfl rfl rfl rfl rfl hb97 rfl) ?_
    refine aops_nil ?_
    exact S7_4_ok Q E nx3 L3 _ t_2 r_4 o_5 n_7 false aw h2 h4 h5 h7 rfl H
theorem S7_3_ok (Q : (Int × Int × ByteArray × Value × ByteArray × Value × Int) → AW → Prop) (E : List PanicEntry → AW → Prop)  : ∀ (n : Nat) (ρ : Env) (t_2 : Value) (r_4 : Value) (o_5 : Value) (n_7 : Int) (aw : AW) (h2 : ρ 2 = t_2) (h4 : ρ 4 = r_4) (h5 : ρ 5 = o_5) (h7 : ρ 7 = .int .i64 n_7), S7_3 Q E  n t_2 r_4 o_5 n_7 aw →
    AGo prog 70 [.code C7_28, .inLoop C7_28, .inBlock 2, .code C7_38] ρ [] aw (RR prog f7 70 sh7 Q E)
  | 0, _, _, _, _, _, _, _, _, _, _ => fun H => H.elim
  | n + 1, ρ, t_2, r_4, o_5, n_7, aw, h2, h4, h5, h7 => fun H => S7_3s_ok Q E  _ (S7_3_ok Q E  n) ρ t_2 r_4 o_5 n_7 aw h2 h4 h5 h7 H
theorem S7_2_ok (Q : (Int × Int × ByteArray × Value × ByteArray × Value × Int) → AW → Prop) (E : List PanicEntry → AW → Prop) (nx1 : Value → Value → Value → Int → AW → Prop) (L1 : ∀ (ρ : Env) (t_2 : Value) (r_4 : Value) (o_5 : Value) (n_6 : Int) (aw : AW) (h2 : ρ 2 = t_2) (h4 : ρ 4 = r_4) (h5 : ρ 5 = o_5) (h6 : ρ 6 = .int .i64 n_6), nx1 t_2 r_4 o_5 n_6 aw → AGo prog 70 [.code C7_11, .inLoop C7_11, .inBlock 0, .code C7_21] ρ [] aw (RR prog f7 70 sh7 Q E)) (ρ : Env) (t_2 : Value) (r_4 : Value) (o_5 : Value) (n_6 : Int) (t_25 : Bool) (aw : AW) (h2 : ρ 2 = t_2) (h4 : ρ 4 = r_4) (h5 : ρ 5 = o_5) (h6 : ρ 6 = .int .i64 n_6) (h25 : ρ 25 = .bool t_25) (H : S7_2 Q E nx1 t_2 r_4 o_5 n_6 t_25 aw) :
    AGo prog 70 [.code C7_14, .code C7_17, .inLoop C7_11, .inBlock 0, .code C7_21] ρ [] aw (RR prog f7 70 sh7 Q E) := by
  unfold S7_2 at H
  refine ago_condE  (rfl : C7_14 = .cond (.tmp 25) C7_15 C7_16) rfl h25 (fun hb100 => ?_) (fun hb100 => ?_)
  · replace H := cnd_t H hb100
    refine ago_skipE (rfl : C7_15 = .skip) ?_
    refine ago_seqE (rfl : C7_17 = .seq C7_18 C7_20) ?_
    refine ago_blockE (rfl : C7_18 = .block 1 C7_19) ?_
    obtain ⟨b102, i103, p101, hp104, hv105, H⟩ := H
    obtain ⟨b106, i107, x109, hp108, hg110, H⟩ := H
    refine ago_drawH (p := [0, 1, 2, 4, 6]) (tl := [(3, [0, 1, 4, 6], []), (5, [0, 1, 6], []), (7, [0, 1], [8]), (9, [0, 1], []), (10, [], [11]), (12, [], [])]) (hv := [(0, p101), (1, x109), (2, r_4), (4, r_4), (6, r_4)]) (rfl : C7_19 = .region 6 R7_6 true) mixed R7_6_N R7_6_O rfl (pv_cons rfl (pv_cons rfl (pv_cons rfl (pv_cons rfl (pv_cons rfl (pv_nil _))))))
      (fc 28 p101 (hd_v rfl fun ρ hρ => ⟨rfl, ov_fldA rfl rfl underlying26 rfl sz23 (by decide) ((hρ 5 (lmem rfl)).trans h5) hp104 rfl hv105⟩) rfl rfl
      (fc 29 x109 (hd_v rfl fun ρ hρ => ⟨rfl, ov_ldV rfl underlying23 rfl rfl ((hρ 28 (lmem rfl)).trans rfl) hp108 hg110⟩) rfl rfl
      (fc 30 r_4 (hd_v rfl fun ρ hρ => ⟨rfl, opv_move rfl rfl ((hρ 4 (lmem rfl)).trans h4)⟩) rfl rfl
      (fc 32 r_4 (hd_v rfl fun ρ hρ => ⟨rfl, opv_move rfl rfl ((hρ 4 (lmem rfl)).trans h4)⟩) rfl rfl
      (fc 34 r_4 (hd_v rfl fun ρ hρ => ⟨rfl, opv_move rfl rfl ((hρ 4 (lmem rfl)).trans h4)⟩) rfl rfl
      ffn))))) ?_
    refine lt_call (dt := some 31) rfl rfl (fun ρ hρ => ⟨rfl, opc_of rfl rfl is19 (ma_cons ((hρ 30 (lmem rfl)).trans rfl) (ma_cons rfl rfl))⟩) H (fun _ _ h _ => ⟨rfl, h⟩) fun r111 aw112 H => ?_
    obtain ⟨hg110, H⟩ := H
    replace hg110 := hg110 _ _ hp108
    refine lt_next (l := [0, 1, 4, 6]) (hv := []) rfl rfl (pv_nil _)
      (fc 28 p101 (hd_v rfl fun ρ hρ => ⟨rfl, ov_fldA rfl rfl underlying26 rfl sz23 (by decide) ((hρ 5 (lmem rfl)).trans h5) hp104 rfl hv105⟩) rfl rfl
      (fc 29 x109 (hd_v rfl fun ρ hρ => ⟨rfl, ov_ldV rfl underlying23 rfl rfl ((hρ 28 (lmem rfl)).trans rfl) hp108 hg110⟩) rfl rfl
      (fc 32 r_4 (hd_v rfl fun ρ hρ => ⟨rfl, opv_move rfl rfl ((hρ 4 (lmem rfl)).trans h4)⟩) rfl rfl
      (fc 34 r_4 (hd_v rfl fun ρ hρ => ⟨rfl, opv_move rfl rfl ((hρ 4 (lmem rfl)).trans h4)⟩) rfl rfl
      ffn)))) ?_
    refine lt_call (dt := some 33) rfl rfl (fun ρ hρ => ⟨rfl, opc_of rfl rfl is19 (ma_cons ((hρ 32 (lmem rfl)).trans rfl) (ma_cons rfl rfl))⟩) H (fun _ _ h _ => ⟨rfl, h⟩) fun r113 aw114 H => ?_
    obtain ⟨hg110, H⟩ := H
    replace hg110 := hg110 _ _ hp108
    refine lt_next (l := [0, 1, 6]) (hv := []) rfl rfl (pv_nil _)
      (fc 28 p101 (hd_v rfl fun ρ hρ => ⟨rfl, ov_fldA rfl rfl underlying26 rfl sz23 (by decide) ((hρ 5 (lmem rfl)).trans h5) hp104 rfl hv105⟩) rfl rfl
      (fc 29 x109 (hd_v rfl fun ρ hρ => ⟨rfl, ov_ldV rfl underlying23 rfl rfl ((hρ 28 (lmem rfl)).trans rfl) hp108 hg110⟩) rfl rfl
      (fc 34 r_4 (hd_v rfl fun ρ hρ => ⟨rfl, opv_move rfl rfl ((hρ 4 (lmem rfl)).trans h4)⟩) rfl rfl
      ffn))) ?_
    refine lt_call (dt := some 35) rfl rfl (fun ρ hρ => ⟨rfl, opc_of rfl rfl is19 (ma_cons ((hρ 34 (lmem rfl)).trans rfl) (ma_cons rfl rfl))⟩) H (fun _ _ h _ => ⟨rfl, h⟩) fun r115 aw116 H => ?_
    obtain ⟨hg110, H⟩ := H
    replace hg110 := hg110 _ _ hp108
    refine lt_next (l := [0, 1, 8]) (hv := [(8, Value.agg #[.string r111, .string r113, .string r115])]) rfl rfl (pv_cons rfl (pv_nil _))
      (fc 28 p101 (hd_v rfl fun ρ hρ => ⟨rfl, ov_fldA rfl rfl underlying26 rfl sz23 (by decide) ((hρ 5 (lmem rfl)).trans h5) hp104 rfl hv105⟩) rfl rfl
      (fc 29 x109 (hd_v rfl fun ρ hρ => ⟨rfl, ov_ldV rfl underlying23 rfl rfl ((hρ 28 (lmem rfl)).trans rfl) hp108 hg110⟩) rfl rfl
      (fc 36 (.agg #[.string r111, .string r113, .string r115]) (hd_v rfl fun ρ hρ => ⟨rfl, ov_bld (r := [.string r111, .string r113, .string r115]) rfl rfl bo29 (mp_cons ((hρ 31 (lmem rfl)).trans rfl) (mp_cons ((hρ 33 (lmem rfl)).trans rfl) (mp_cons ((hρ 35 (lmem rfl)).trans rfl) rfl))) (fillP rfl rfl rfl rfl (fillP rfl rfl rfl rfl (fillP rfl rfl rfl rfl (fillN rfl))))⟩) rfl rfl
      ffn))) ?_
    obtain ⟨p117, aw118, hp119, ha120, H⟩ := H
    refine lt_val (dt := some 37) (v := p117) rfl rfl (fun ρ hρ => ⟨rfl, ov_bsA (r := [.string r111, .string r113, .string r115]) (vs := [.agg #[.string r111, .string r113, .string r115]]) rfl rfl underlying23 sz29 z29 rfl rfl rfl rfl rfl (mp_cons ((hρ 36 (lmem rfl)).trans rfl) rfl) (.cons (v := .agg #[.string r111, .string r113, .string r115]) (xs := [.string r111, .string r113, .string r115]) (r := []) rfl rfl .nil) hp119 ha120⟩) ?_
    obtain ⟨hg110, H⟩ := H
    replace hg110 := hg110 _ _ hp108
    refine lt_next (l := [0, 1]) (hv := []) rfl rfl (pv_nil _)
      (fc 28 p101 (hd_v rfl fun ρ hρ => ⟨rfl, ov_fldA rfl rfl underlying26 rfl sz23 (by decide) ((hρ 5 (lmem rfl)).trans h5) hp104 rfl hv105⟩) rfl rfl
      (fc 29 x109 (hd_v rfl fun ρ hρ => ⟨rfl, ov_ldV rfl underlying23 rfl rfl ((hρ 28 (lmem rfl)).trans rfl) hp108 hg110⟩) rfl rfl
      ffn)) ?_
    obtain ⟨v121, aw122, hq123, H⟩ := H
    refine lt_val (dt := some 38) (v := v121) rfl rfl (fun ρ hρ => ⟨rfl, ov_app rfl rfl rfl rfl underlying23 sz29 by29 underlying23 rfl z29 rfl (by decide) (by decide) ((hρ 29 (lmem rfl)).trans rfl) ((hρ 37 (lmem rfl)).trans rfl) hq123⟩) ?_
    obtain ⟨b125, i126, p124, hp127, hv128, H⟩ := H
    refine lt_next (l := [11]) (hv := [(11, p124)]) rfl rfl (pv_cons rfl (pv_nil _))
      (fc 39 p124 (hd_v rfl fun ρ hρ => ⟨rfl, ov_fldA rfl rfl underlying26 rfl sz23 (by decide) ((hρ 5 (lmem rfl)).trans h5) hp127 rfl hv128⟩) rfl rfl
      ffn) ?_
    obtain ⟨b130, i131, aw129, hp132, hw133, ho134, ha135, H⟩ := H
    refine lt_val (dt := none) (v := undef) rfl rfl (fun ρ hρ => ⟨rfl, ov_st rfl rfl rfl ((hρ 39 (lmem rfl)).trans rfl) ((hρ 38 (lmem rfl)).trans rfl) (cells_all ho134) sz23 hp132 hw133 ho134 ha135⟩) ?_
    refine lt_next (l := []) (hv := []) rfl rfl (pv_nil _)
      ffn ?_
    refine lt_end ?_
    refine ago_inBlock ?_
    refine ago_cut (fun ρ => ρ 2 = t_2 ∧ ρ 4 = r_4 ∧ ρ 5 = o_5 ∧ ρ 6 = .int .i64 n_6 ∧ True) ⟨h2, h4, h5, h6, trivial⟩ (fun ρ ⟨h2, h4, h5, h6, _⟩ => ?_)
    refine ago_regE (rfl : C7_20 = .region 5 R7_5 false) (l := [0, 1, 2]) rfl ?_
    refine lj 26 R7_5_N rfl rfl rfl (opv_move rfl rfl h6) ?_
    refine lj 27 R7_5_N rfl rfl rfl (opv_sub rfl rfl rfl rfl rfl) ?_
    refine lj 6 R7_5_N rfl rfl rfl (opv_assign rfl rfl rfl) ?_
    refine aops_nil ?_
    refine ago_inLoop ?_
    exact L1 _ t_2 r_4 o_5 (IntKind.i64.wrap (n_6 - 1)) aw129 h2 h4 h5 rfl H
  replace H := cnd_f H hb100
  refine ago_exitE (rfl : C7_16 = .exit 0) rfl ?_
  refine ago_seqE (rfl : C7_21 = .seq C7_22 C7_23) ?_
  refine ago_regE (rfl : C7_22 = .region 7 R7_7 false) (l := [0, 1, 2, 3]) rfl ?_
  refine lj 40 R7_7_N rfl rfl rfl (opv_move rfl rfl h4) ?_
  refine lc 41 R7_7_N rfl rfl rfl (opc_of rfl rfl is19 (ma_cons rfl (ma_cons rfl rfl))) H (fun _ _ h => ⟨rfl, h⟩) fun r136 aw137 H => ?_
  obtain ⟨b139, i140, p138, hp141, hv142, H⟩ := H
  refine lj 42 R7_7_N rfl rfl rfl (ov_fldA rfl rfl underlying26 rfl sz9 (by decide) h5 hp141 rfl hv142) ?_
  obtain ⟨b144, i145, aw143, hp146, hw147, ho148, ha149, H⟩ := H
  refine lk (dt := none) R7_7_N rfl rfl rfl (ov_st rfl rfl rfl rfl rfl rfl sz9 hp146 hw147 ho148 ha149) ?_
  refine aops_nil ?_
  refine ago_seqE (rfl : C7_23 = .seq C7_24 C7_38) ?_
  refine ago_seqE (rfl : C7_24 = .seq C7_25 C7_26) ?_
  refine ago_regE (rfl : C7_25 = .region 8 R7_8 false) (l := [0, 1, 2]) rfl ?_
  refine lj 43 R7_8_N rfl rfl rfl (opv_move rfl rfl h4) ?_
  refine lc 44 R7_8_N rfl rfl rfl (opc_of rfl rfl is20 (ma_cons rfl (ma_cons rfl rfl))) H (fun _ _ h => ⟨rfl, h⟩) fun r150 aw151 H => ?_
  refine lj 7 R7_8_N rfl rfl rfl (opv_assign rfl rfl rfl) ?_
  refine aops_nil ?_
  refine ago_blockE (rfl : C7_26 = .block 2 C7_27) ?_
  refine ago_loopE (rfl : C7_27 = .loop C7_28) ?_
  obtain ⟨n, H⟩ := H
  exact S7_3_ok Q E  n _ t_2 r_4 o_5 r150 aw151 h2 h4 h5 rfl H
theorem S7_1s_ok (Q : (Int × Int × ByteArray × Value × ByteArray × Value × Int) → AW → Prop) (E : List PanicEntry → AW → Prop)  (nx1 : Value → Value → Value → Int → AW → Prop) (L1 : ∀ (ρ : Env) (t_2 : Value) (r_4 : Value) (o_5 : Value) (n_6 : Int) (aw : AW) (h2 : ρ 2 = t_2) (h4 : ρ 4 = r_4) (h5 : ρ 5 = o_5) (h6 : ρ 6 = .int .i64 n_6), nx1 t_2 r_4 o_5 n_6 aw → AGo prog 70 [.code C7_11, .inLoop C7_11, .inBlock 0, .code C7_21] ρ [] aw (RR prog f7 70 sh7 Q E)) (ρ : Env) (t_2 : Value) (r_4 : Value) (o_5 : Value) (n_6 : Int) (aw : AW) (h2 : ρ 2 = t_2) (h4 : ρ 4 = r_4) (h5 : ρ 5 = o_5) (h6 : ρ 6 = .int .i64 n_6) (H : S7_1s Q E  nx1 t_2 r_4 o_5 n_6 aw) :
    AGo prog 70 [.code C7_11, .inLoop C7_11, .inBlock 0, .code C7_21] ρ [] aw (RR prog f7 70 sh7 Q E) := by
  unfold S7_1s at H
  refine ago_seqE (rfl : C7_11 = .seq C7_12 C7_17) ?_
  refine ago_seqE (rfl : C7_12 = .seq C7_13 C7_14) ?_
  refine ago_regE (rfl : C7_13 = .region 4 R7_4 false) (l := [0, 1, 2, 3, 4, 5, 6]) rfl ?_
  refine lj 19 R7_4_N rfl rfl rfl (opv_move rfl rfl h6) ?_
  refine lj 20 R7_4_N rfl rfl rfl (opv_gt rfl rfl rfl rfl rfl) ?_
  refine lj 21 R7_4_N rfl rfl rfl (opv_move rfl rfl rfl) ?_
  rcases Bool.eq_false_or_eq_true (decide (0 < n_6)) with hb152 | hb152
  · replace H := cnd_t H hb152
    refine lj 22 R7_4_N rfl rfl ⟨_, rfl, .inl ⟨_, rfl, gq hb152 rfl⟩⟩ (opv_move rfl rfl h4) ?_
    refine lc 23 R7_4_N rfl rfl ⟨_, rfl, .inl ⟨_, rfl, gq hb152 rfl⟩⟩ (opc_of rfl rfl is21 (ma_cons rfl rfl)) H (fun _ _ h => ⟨rfl, h⟩) fun r153 aw154 H => ?_
    refine lj 24 R7_4_N rfl rfl ⟨_, rfl, .inl ⟨_, rfl, gq hb152 rfl⟩⟩ (opv_not rfl rfl rfl) ?_
    refine lj 25 R7_4_N rfl rfl rfl (ov_pickT rfl rfl rfl rfl rfl hb152 rfl) ?_
    refine aops_nil ?_
    exact S7_2_ok Q E nx1 L1 _ t_2 r_4 o_5 n_6 (!r153) aw154 h2 h4 h5 h6 rfl H
  · replace H := cnd_f H hb152
    refine ls 22 R7_4_N rfl rfl ⟨_, rfl, .inl ⟨_, rfl, gq hb152 rfl⟩⟩ ?_
    refine ls 23 R7_4_N rfl rfl ⟨_, rfl, .inl ⟨_, rfl, gq hb152 rfl⟩⟩ ?_
    refine ls 24 R7_4_N rfl rfl ⟨_, rfl, .inl ⟨_, rfl, gq hb152 rfl⟩⟩ ?_
    refine lj 25 R7_4_N rfl rfl rfl (ov_pickF rfl rfl rfl rfl rfl hb152 rfl) ?_
    refine aops_nil ?_
    exact S7_2_ok Q E nx1 L1 _ t_2 r_4 o_5 n_6 false aw h2 h4 h5 h6 rfl H
theorem S7_1_ok (Q : (Int × Int × ByteArray × Value × ByteArray × Value × Int) → AW → Prop) (E : List PanicEntry → AW → Prop)  : ∀ (n : Nat) (ρ : Env) (t_2 : Value) (r_4 : Value) (o_5 : Value) (n_6 : Int) (aw : AW) (h2 : ρ 2 = t_2) (h4 : ρ 4 = r_4) (h5 : ρ 5 = o_5) (h6 : ρ 6 = .int .i64 n_6), S7_1 Q E  n t_2 r_4 o_5 n_6 aw →
    AGo prog 70 [.code C7_11, .inLoop C7_11, .inBlock 0, .code C7_21] ρ [] aw (RR prog f7 70 sh7 Q E)
  | 0, _, _, _, _, _, _, _, _, _, _ => fun H => H.elim
  | n + 1, ρ, t_2, r_4, o_5, n_6, aw, h2, h4, h5, h6 => fun H => S7_1s_ok Q E  _ (S7_1_ok Q E  n) ρ t_2 r_4 o_5 n_6 aw h2 h4 h5 h6 H
theorem S7_0_ok (Q : (Int × Int × ByteArray × Value × ByteArray × Value × Int) → AW → Prop) (E : List PanicEntry → AW → Prop)  (ρ : Env) (p_0 : Value) (aw : AW) (h0 : ρ 0 = p_0) (H : S7_0 Q E  p_0 aw) :
    AGo prog 70 [.code C7_0] ρ [] aw (RR prog f7 70 sh7 Q E) := by
  unfold S7_0 at H
  refine ago_seqE (rfl : C7_0 = .seq C7_1 C7_2) ?_
  refine ago_regE (rfl : C7_1 = .region 0 R7_0 false) (l := [0, 1]) rfl ?_
  obtain ⟨p155, aw156, hp157, ha158, H⟩ := H
  refine lj 2 R7_0_N rfl rfl rfl (ov_alloc rfl z26 rfl rfl hp157 ha158) ?_
  refine lj 3 R7_0_N rfl rfl rfl (opv_assign rfl rfl rfl) ?_
  refine aops_nil ?_
  refine ago_seqE (rfl : C7_2 = .seq C7_3 C7_4) ?_
  refine ago_regE (rfl : C7_3 = .region 1 R7_1 false) (l := [0, 1, 2]) rfl ?_
  refine lj 8 R7_1_N rfl rfl rfl (opv_move rfl rfl h0) ?_
  refine lc 9 R7_1_N rfl rfl rfl (opc_of rfl rfl is17 (ma_cons rfl rfl)) H (fun _ _ h => ⟨rfl, h⟩) fun r159 aw160 H => ?_
  refine lj 4 R7_1_N rfl rfl rfl (opv_assign rfl rfl rfl) ?_
  refine aops_nil ?_
  refine ago_seqE (rfl : C7_4 = .seq C7_5 C7_6) ?_
  refine ago_regE (rfl : C7_5 = .region 2 R7_2 false) (l := [0, 1, 2, 3, 4, 5, 6, 7, 8]) rfl ?_
  refine lj 10 R7_2_N rfl rfl rfl (opv_move rfl rfl rfl) ?_
  refine lc 11 R7_2_N rfl rfl rfl (opc_of rfl rfl is18 (ma_cons rfl rfl)) H (fun _ _ h => ⟨rfl, h⟩) fun r161 aw162 H => ?_
  refine lj 12 R7_2_N rfl rfl rfl (opv_move rfl rfl rfl) ?_
  refine lc 13 R7_2_N rfl rfl rfl (opc_of rfl rfl is18 (ma_cons rfl rfl)) H (fun _ _ h => ⟨rfl, h⟩) fun r163 aw164 H => ?_
  refine lj 14 R7_2_N rfl rfl rfl (opv_move rfl rfl rfl) ?_
  refine lc 15 R7_2_N rfl rfl rfl (opc_of rfl rfl is19 (ma_cons rfl (ma_cons rfl rfl))) H (fun _ _ h => ⟨rfl, h⟩) fun r165 aw166 H => ?_
  refine lj 16 R7_2_N rfl rfl rfl (ov_bld (r := [.int .i64 r161, .int .i64 r163, .string r165, (.slice none 0 0), .string (⟨#[]⟩ : ByteArray), (.slice none 0 0)]) rfl rfl bo26 (mp_cons rfl (mp_cons rfl (mp_cons rfl rfl))) (fillP rfl rfl rfl rfl (fillP rfl rfl rfl rfl (fillP rfl rfl rfl rfl (fillN rfl))))) ?_
  obtain ⟨p167, aw168, hp169, ha170, H⟩ := H
  refine lj 5 R7_2_N rfl rfl rfl (ov_alloc rfl z26 rfl rfl hp169 ha170) ?_
  obtain ⟨b172, i173, aw171, hp174, hw175, ho176, ha177, H⟩ := H
  refine lk (dt := none) R7_2_N rfl rfl rfl (ov_st rfl rfl rfl rfl rfl rfl sz26 hp174 hw175 ho176 ha177) ?_
  refine aops_nil ?_
  refine ago_seqE (rfl : C7_6 = .seq C7_7 C7_21) ?_
  refine ago_seqE (rfl : C7_7 = .seq C7_8 C7_9) ?_
  refine ago_cut (fun ρ => ρ 2 = p155 ∧ ρ 4 = r159 ∧ ρ 5 = p167 ∧ True) ⟨rfl, rfl, rfl, trivial⟩ (fun ρ ⟨h2, h4, h5, _⟩ => ?_)
  refine ago_regE (rfl : C7_8 = .region 3 R7_3 false) (l := [0, 1, 2]) rfl ?_
  refine lj 17 R7_3_N rfl rfl rfl (opv_move rfl rfl h4) ?_
  refine lc 18 R7_3_N rfl rfl rfl (opc_of rfl rfl is20 (ma_cons rfl (ma_cons rfl rfl))) H (fun _ _ h => ⟨rfl, h⟩) fun r178 aw179 H => ?_
  refine lj 6 R7_3_N rfl rfl rfl (opv_assign rfl rfl rfl) ?_
  refine aops_nil ?_
  refine ago_blockE (rfl : C7_9 = .block 0 C7_10) ?_
  refine ago_loopE (rfl : C7_10 = .loop C7_11) ?_
  obtain ⟨n, H⟩ := H
  exact S7_1_ok Q E  n _ p155 r159 p167 r178 aw179 h2 h4 h5 rfl H
theorem F7_ok {Q : (Int × Int × ByteArray × Value × ByteArray × Value × Int) → AW → Prop} {E : List PanicEntry → AW → Prop} (p_0 : Value) (aw : AW) (H : S7_0 Q E p_0 aw) : CallP prog 7 [p_0] aw sh7 Q E :=
  callP_of func7 C7_is rfl (Nat.le_of_ble_eq_true rfl) (S7_0_ok Q E _ p_0 aw rfl H)
end
end Go.Proofs.Tryz
