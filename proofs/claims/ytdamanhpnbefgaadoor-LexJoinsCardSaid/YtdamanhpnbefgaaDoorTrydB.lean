/- Printed by a program of the prover: what the Go functions of this seat do, in steps. -/
import Derived.Test.YtdamanhpnbefgaaDoorTrydA2
set_option linter.unusedVariables false
namespace Go.Proofs.Tryd
open Go Go.Am Go.RowKit
/-! ### battledore/battledoreref03.Word: function 13 -/
noncomputable def C13_0 : Code := bodyOf f13
theorem C13_is : f13.body = some C13_0 := by kernel_rfl
noncomputable def C13_1 : Code := cl C13_0
noncomputable def R13_0 : Array Oper := regOps C13_1
noncomputable def C13_2 : Code := cr C13_0
noncomputable def C13_3 : Code := cl C13_2
noncomputable def R13_1 : Array Oper := regOps C13_3
noncomputable def C13_4 : Code := cr C13_2
noncomputable def C13_5 : Code := cl C13_4
noncomputable def C13_6 : Code := cl C13_5
noncomputable def R13_2 : Array Oper := regOps C13_6
noncomputable def C13_7 : Code := cr C13_5
noncomputable def C13_8 : Code := cl C13_7
noncomputable def C13_9 : Code := cl C13_8
noncomputable def C13_10 : Code := cl C13_9
noncomputable def C13_11 : Code := cl C13_10
noncomputable def R13_3 : Array Oper := regOps C13_11
noncomputable def C13_12 : Code := cr C13_10
noncomputable def C13_13 : Code := cl C13_12
noncomputable def C13_14 : Code := cr C13_12
noncomputable def C13_15 : Code := cr C13_9
noncomputable def C13_16 : Code := cl C13_15
noncomputable def C13_17 : Code := cl C13_16
noncomputable def C13_18 : Code := cl C13_17
noncomputable def R13_5 : Array Oper := regOps C13_18
noncomputable def C13_19 : Code := cr C13_17
noncomputable def C13_20 : Code := cl C13_19
noncomputable def C13_21 : Code := cl C13_20
noncomputable def R13_6 : Array Oper := regOps C13_21
noncomputable def C13_22 : Code := cr C13_20
noncomputable def C13_23 : Code := cr C13_19
noncomputable def C13_24 : Code := cr C13_15
noncomputable def R13_4 : Array Oper := regOps C13_24
noncomputable def C13_25 : Code := cr C13_4
noncomputable def C13_26 : Code := cl C13_25
noncomputable def R13_7 : Array Oper := regOps C13_26
noncomputable def C13_27 : Code := cr C13_25
theorem R13_0_N : dstsOk 18 R13_0 = true := by decide +kernel
theorem E13_1 : C13_1 = .region 0 R13_0 false := rfl
theorem R13_1_N : dstsOk 18 R13_1 = true := by decide +kernel
theorem E13_3 : C13_3 = .region 1 R13_1 false := rfl
theorem R13_2_N : dstsOk 18 R13_2 = true := by decide +kernel
theorem E13_6 : C13_6 = .region 2 R13_2 false := rfl
theorem R13_3_N : dstsOk 18 R13_3 = true := by decide +kernel
theorem E13_11 : C13_11 = .region 3 R13_3 false := rfl
theorem E13_13 : C13_13 = .skip := rfl
theorem E13_14 : C13_14 = .exit 0 := rfl
theorem E13_12 : C13_12 = .cond (.tmp 9) C13_13 C13_14 := rfl
theorem E13_10 : C13_10 = .seq C13_11 C13_12 := rfl
theorem R13_5_N : dstsOk 18 R13_5 = true := by decide +kernel
theorem E13_18 : C13_18 = .region 5 R13_5 false := rfl
theorem R13_6_N : dstsOk 18 R13_6 = true := by decide +kernel
theorem E13_21 : C13_21 = .region 6 R13_6 false := rfl
theorem E13_22 : C13_22 = .ret := rfl
theorem E13_20 : C13_20 = .seq C13_21 C13_22 := rfl
theorem E13_23 : C13_23 = .skip := rfl
theorem E13_19 : C13_19 = .cond (.tmp 17) C13_20 C13_23 := rfl
theorem E13_17 : C13_17 = .seq C13_18 C13_19 := rfl
theorem E13_16 : C13_16 = .block 1 C13_17 := rfl
theorem R13_4_N : dstsOk 18 R13_4 = true := by decide +kernel
theorem E13_24 : C13_24 = .region 4 R13_4 false := rfl
theorem E13_15 : C13_15 = .seq C13_16 C13_24 := rfl
theorem E13_9 : C13_9 = .seq C13_10 C13_15 := rfl
theorem E13_8 : C13_8 = .loop C13_9 := rfl
theorem E13_7 : C13_7 = .block 0 C13_8 := rfl
theorem E13_5 : C13_5 = .seq C13_6 C13_7 := rfl
theorem R13_7_N : dstsOk 18 R13_7 = true := by decide +kernel
theorem E13_26 : C13_26 = .region 7 R13_7 false := rfl
theorem E13_27 : C13_27 = .ret := rfl
theorem E13_25 : C13_25 = .seq C13_26 C13_27 := rfl
theorem E13_4 : C13_4 = .seq C13_5 C13_25 := rfl
theorem E13_2 : C13_2 = .seq C13_3 C13_4 := rfl
theorem E13_0 : C13_0 = .seq C13_1 C13_2 := rfl
def S13_1s (Q : Bool → AW → Prop) (E : List PanicEntry → AW → Prop)  (nx1 : ByteArray → Value → Int → AW → Prop) (s_0 : ByteArray) (l_3 : Value) (i_4 : Int) (aw : AW) : Prop :=
  slen l_3 fun n1 =>
  cnd (decide (i_4 < n1)) (ixS l_3 i_4 1 fun p8 =>
  ldS aw p8 fun x20 =>
  cnd (decide (x20 = s_0)) (Q true aw) (nx1 s_0 l_3 (IntKind.i64.wrap (i_4 + 1)) aw)) (Q false aw)
def S13_1 (Q : Bool → AW → Prop) (E : List PanicEntry → AW → Prop)  : Nat → ByteArray → Value → Int → AW → Prop
  | 0 => fun _ _ _ _ => False
  | n + 1 => S13_1s Q E  (S13_1 Q E  n)
def S13_0 (Q : Bool → AW → Prop) (E : List PanicEntry → AW → Prop)  (s_0 : ByteArray) (aw : AW) : Prop :=
  alcS aw [.string (⟨#[108, 101, 116]⟩ : ByteArray), .string (⟨#[114, 101, 99]⟩ : ByteArray), .string (⟨#[105, 110]⟩ : ByteArray), .string (⟨#[102, 117, 110]⟩ : ByteArray), .string (⟨#[105, 102]⟩ : ByteArray), .string (⟨#[116, 104, 101, 110]⟩ : ByteArray), .string (⟨#[101, 108, 115, 101]⟩ : ByteArray), .string (⟨#[109, 97, 116, 99, 104]⟩ : ByteArray), .string (⟨#[119, 105, 116, 104]⟩ : ByteArray), .string (⟨#[116, 114, 121]⟩ : ByteArray), .string (⟨#[116, 121, 112, 101]⟩ : ByteArray), .string (⟨#[111, 102]⟩ : ByteArray), .string (⟨#[109, 111, 100]⟩ : ByteArray), .string (⟨#[116, 114, 117, 101]⟩ : ByteArray), .string (⟨#[102, 97, 108, 115, 101]⟩ : ByteArray)] 9 1 15 fun p23 aw24 =>
  ∃ n, S13_1 Q E  n s_0 p23 0 aw24
set_option maxHeartbeats 4000000 in
set_option maxRecDepth 100000 in
theorem S13_1s_ok (Q : Bool → AW → Prop) (E : List PanicEntry → AW → Prop)  (nx1 : ByteArray → Value → Int → AW → Prop) (L1 : ∀ (ρ : Env) (s_0 : ByteArray) (l_3 : Value) (i_4 : Int) (aw : AW) (h0 : ρ 0 = .string s_0) (h3 : ρ 3 = l_3) (h4 : ρ 4 = .int .i64 i_4), nx1 s_0 l_3 i_4 aw → AGo prog 18 [.code C13_9, .inLoop C13_9, .inBlock 0, .code C13_25] ρ [] aw (RR prog f13 18 sh13 Q E)) (ρ : Env) (s_0 : ByteArray) (l_3 : Value) (i_4 : Int) (aw : AW) (h0 : ρ 0 = .string s_0) (h3 : ρ 3 = l_3) (h4 : ρ 4 = .int .i64 i_4) (H : S13_1s Q E  nx1 s_0 l_3 i_4 aw) :
    AGo prog 18 [.code C13_9, .inLoop C13_9, .inBlock 0, .code C13_25] ρ [] aw (RR prog f13 18 sh13 Q E) := by
  unfold S13_1s at H
  refine ago_seqE E13_9 ?_
  refine ago_seqE E13_10 ?_
  refine ago_regE E13_11 (l := [0, 1, 2, 3]) rfl ?_
  refine lk (dt := some 6) R13_3_N rfl rfl rfl (opv_move rfl rfl h4) ?_
  refine lk (dt := some 7) R13_3_N rfl rfl rfl (opv_move rfl rfl h3) ?_
  obtain ⟨q2, l3, c4, n1, hv5, hn6, H⟩ := H
  refine lk (dt := some 8) R13_3_N rfl rfl rfl (ov_len rfl rfl rfl underlying43 rfl hv5 hn6) ?_
  refine lk (dt := some 9) R13_3_N rfl rfl rfl (opv_lt rfl rfl rfl rfl rfl) ?_
  refine aops_nil ?_
  refine ago_condE  E13_12 rfl rfl (fun hb7 => ?_) (fun hb7 => ?_)
  · replace H := cnd_t H hb7
    refine ago_skipE E13_13 ?_
    refine ago_seqE E13_15 ?_
    refine ago_blockE E13_16 ?_
    refine ago_seqE E13_17 ?_
    refine ago_regE E13_18 (l := [0, 1, 2, 3, 4, 5]) rfl ?_
    refine lk (dt := some 12) R13_5_N rfl rfl rfl (opv_move rfl rfl h3) ?_
    refine lk (dt := some 13) R13_5_N rfl rfl rfl (opv_move rfl rfl h4) ?_
    obtain ⟨b9, i10, l11, c12, p8, hp13, h014, hj15, hv16, H⟩ := H
    refine lk (dt := some 14) R13_5_N rfl rfl rfl (ov_ixS rfl rfl rfl underlying43 sz9 rfl rfl hp13 h014 hj15 hv16) ?_
    obtain ⟨b17, i18, x20, hp19, hg21, H⟩ := H
    refine lk (dt := some 15) R13_5_N rfl rfl rfl (ov_ldS rfl underlying9 rfl rfl hp19 hg21) ?_
    refine lk (dt := some 16) R13_5_N rfl rfl rfl (opv_move rfl rfl h0) ?_
    refine lk (dt := some 17) R13_5_N rfl rfl rfl (opv_eqS rfl rfl rfl rfl rfl) ?_
    refine aops_nil ?_
    refine ago_condE  E13_19 rfl rfl (fun hb22 => ?_) (fun hb22 => ?_)
    · replace H := cnd_t H hb22
      refine ago_seqE E13_20 ?_
      refine ago_regE E13_21 (l := [0]) rfl ?_
      refine lk (dt := some 2) R13_6_N rfl rfl rfl (opv_assign rfl rfl rfl) ?_
      refine aops_nil ?_
      exact ago_retE E13_22 (r := true) (ares_1 rfl (oneT rfl)) rfl H
    · replace H := cnd_f H hb22
      refine ago_skipE E13_23 ?_
      refine ago_inBlock ?_
      refine ago_regE E13_24 (l := [0, 1, 2]) rfl ?_
      refine lk (dt := some 10) R13_4_N rfl rfl rfl (opv_move rfl rfl h4) ?_
      refine lk (dt := some 11) R13_4_N rfl rfl rfl (opv_add rfl rfl rfl rfl rfl) ?_
      refine lk (dt := some 4) R13_4_N rfl rfl rfl (opv_assign rfl rfl rfl) ?_
      refine aops_nil ?_
      refine ago_inLoop ?_
      exact L1 _ s_0 l_3 (IntKind.i64.wrap (i_4 + 1)) aw h0 h3 rfl H
  · replace H := cnd_f H hb7
    refine ago_exitE E13_14 rfl ?_
    refine ago_seqE E13_25 ?_
    refine ago_regE E13_26 (l := [0]) rfl ?_
    refine lk (dt := some 2) R13_7_N rfl rfl rfl (opv_assign rfl rfl rfl) ?_
    refine aops_nil ?_
    exact ago_retE E13_27 (r := false) (ares_1 rfl (oneT rfl)) rfl H
theorem S13_1_ok (Q : Bool → AW → Prop) (E : List PanicEntry → AW → Prop)  : ∀ (n : Nat) (ρ : Env) (s_0 : ByteArray) (l_3 : Value) (i_4 : Int) (aw : AW) (h0 : ρ 0 = .string s_0) (h3 : ρ 3 = l_3) (h4 : ρ 4 = .int .i64 i_4), S13_1 Q E  n s_0 l_3 i_4 aw →
    AGo prog 18 [.code C13_9, .inLoop C13_9, .inBlock 0, .code C13_25] ρ [] aw (RR prog f13 18 sh13 Q E)
  | 0, _, _, _, _, _, _, _, _ => fun H => H.elim
  | n + 1, ρ, s_0, l_3, i_4, aw, h0, h3, h4 => fun H => S13_1s_ok Q E  _ (S13_1_ok Q E  n) ρ s_0 l_3 i_4 aw h0 h3 h4 H
set_option maxHeartbeats 4000000 in
set_option maxRecDepth 100000 in
theorem S13_0_ok (Q : Bool → AW → Prop) (E : List PanicEntry → AW → Prop)  (ρ : Env) (s_0 : ByteArray) (aw : AW) (h0 : ρ 0 = .string s_0) (H : S13_0 Q E  s_0 aw) :
    AGo prog 18 [.code C13_0] ρ [] aw (RR prog f13 18 sh13 Q E) := by
  unfold S13_0 at H
  refine ago_seqE E13_0 ?_
  refine ago_regE E13_1 (l := [0]) rfl ?_
  refine lk (dt := some 2) R13_0_N rfl rfl rfl (opv_assign rfl rfl rfl) ?_
  refine aops_nil ?_
  refine ago_seqE E13_2 ?_
  refine ago_regE E13_3 (l := [0, 1]) rfl ?_
  obtain ⟨p23, aw24, hp25, ha26, H⟩ := H
  refine lk (dt := some 5) R13_1_N rfl rfl rfl (ov_bsA (r := [.string (⟨#[108, 101, 116]⟩ : ByteArray), .string (⟨#[114, 101, 99]⟩ : ByteArray), .string (⟨#[105, 110]⟩ : ByteArray), .string (⟨#[102, 117, 110]⟩ : ByteArray), .string (⟨#[105, 102]⟩ : ByteArray), .string (⟨#[116, 104, 101, 110]⟩ : ByteArray), .string (⟨#[101, 108, 115, 101]⟩ : ByteArray), .string (⟨#[109, 97, 116, 99, 104]⟩ : ByteArray), .string (⟨#[119, 105, 116, 104]⟩ : ByteArray), .string (⟨#[116, 114, 121]⟩ : ByteArray), .string (⟨#[116, 121, 112, 101]⟩ : ByteArray), .string (⟨#[111, 102]⟩ : ByteArray), .string (⟨#[109, 111, 100]⟩ : ByteArray), .string (⟨#[116, 114, 117, 101]⟩ : ByteArray), .string (⟨#[102, 97, 108, 115, 101]⟩ : ByteArray)]) (vs := [.string (⟨#[108, 101, 116]⟩ : ByteArray), .string (⟨#[114, 101, 99]⟩ : ByteArray), .string (⟨#[105, 110]⟩ : ByteArray), .string (⟨#[102, 117, 110]⟩ : ByteArray), .string (⟨#[105, 102]⟩ : ByteArray), .string (⟨#[116, 104, 101, 110]⟩ : ByteArray), .string (⟨#[101, 108, 115, 101]⟩ : ByteArray), .string (⟨#[109, 97, 116, 99, 104]⟩ : ByteArray), .string (⟨#[119, 105, 116, 104]⟩ : ByteArray), .string (⟨#[116, 114, 121]⟩ : ByteArray), .string (⟨#[116, 121, 112, 101]⟩ : ByteArray), .string (⟨#[111, 102]⟩ : ByteArray), .string (⟨#[109, 111, 100]⟩ : ByteArray), .string (⟨#[116, 114, 117, 101]⟩ : ByteArray), .string (⟨#[102, 97, 108, 115, 101]⟩ : ByteArray)]) rfl rfl underlying43 sz9 z9 rfl rfl rfl rfl rfl (mp_cons rfl (mp_cons rfl (mp_cons rfl (mp_cons rfl (mp_cons rfl (mp_cons rfl (mp_cons rfl (mp_cons rfl (mp_cons rfl (mp_cons rfl (mp_cons rfl (mp_cons rfl (mp_cons rfl (mp_cons rfl (mp_cons rfl rfl))))))))))))))) (.one rfl (.one rfl (.one rfl (.one rfl (.one rfl (.one rfl (.one rfl (.one rfl (.one rfl (.one rfl (.one rfl (.one rfl (.one rfl (.one rfl (.one rfl .nil))))))))))))))) hp25 ha26) ?_
  refine lk (dt := some 3) R13_1_N rfl rfl rfl (opv_assign rfl rfl rfl) ?_
  refine aops_nil ?_
  refine ago_seqE E13_4 ?_
  refine ago_seqE E13_5 ?_
  refine ago_regE E13_6 (l := [0]) rfl ?_
  refine lk (dt := some 4) R13_2_N rfl rfl rfl (opv_assign rfl rfl rfl) ?_
  refine aops_nil ?_
  refine ago_blockE E13_7 ?_
  refine ago_loopE E13_8 ?_
  obtain ⟨n, H⟩ := H
  exact S13_1_ok Q E  n _ s_0 p23 0 aw24 h0 rfl rfl H
theorem F13_ok {Q : Bool → AW → Prop} {E : List PanicEntry → AW → Prop} (s_0 : ByteArray) (aw : AW) (H : S13_0 Q E s_0 aw) : CallP prog 13 [.string s_0] aw sh13 Q E :=
  callP_of func13 C13_is rfl (Nat.le_of_ble_eq_true rfl) (S13_0_ok Q E _ s_0 aw rfl H)
/-! ### battledore/battledorelaw03.awake: function 9 -/
noncomputable def C9_0 : Code := bodyOf f9
theorem C9_is : f9.body = some C9_0 := by kernel_rfl
noncomputable def C9_1 : Code := cl C9_0
noncomputable def R9_0 : Array Oper := regOps C9_1
noncomputable def C9_2 : Code := cr C9_0
noncomputable def C9_3 : Code := cl C9_2
noncomputable def R9_1 : Array Oper := regOps C9_3
noncomputable def C9_4 : Code := cr C9_2
noncomputable def C9_5 : Code := cl C9_4
noncomputable def R9_2 : Array Oper := regOps C9_5
noncomputable def C9_6 : Code := cr C9_4
theorem R9_0_N : dstsOk 44 R9_0 = true := by decide +kernel
theorem E9_1 : C9_1 = .region 0 R9_0 false := rfl
theorem R9_1_N : dstsOk 44 R9_1 = true := by decide +kernel
theorem E9_3 : C9_3 = .region 1 R9_1 false := rfl
theorem R9_2_N : dstsOk 44 R9_2 = true := by decide +kernel
theorem E9_5 : C9_5 = .region 2 R9_2 false := rfl
theorem E9_6 : C9_6 = .ret := rfl
theorem E9_4 : C9_4 = .seq C9_5 C9_6 := rfl
theorem E9_2 : C9_2 = .seq C9_3 C9_4 := rfl
theorem E9_0 : C9_0 = .seq C9_1 C9_2 := rfl
def S9_0 (Q : Bool → AW → Prop) (E : List PanicEntry → AW → Prop)   (aw : AW) : Prop :=
  CallP prog 10 [.string (⟨#[102, 32, 39, 97, 40, 42, 42, 41, 120, 49]⟩ : ByteArray)] aw sh10 (fun r1 aw2 =>
  cnd (decide (r1.2.2 = 0)) (slen r1.1 fun n4 =>
  cnd (decide (n4 = 4)) (ixS r1.1 0 3 fun p11 =>
  ∃ b20 i21 c23 c24 c25, p11 = .pointer (some ⟨b20, i21, none⟩) ∧ aw2.get b20 i21 = some (.int .u8 c23) ∧ aw2.get b20 (i21 + 1) = some (.string c24) ∧ aw2.get b20 (i21 + 2) = some (.int .i64 c25) ∧ cnd ((decide (c23 = 1) && (decide (c24 = (⟨#[102]⟩ : ByteArray)) && (decide (c25 = 0) && (true))))) (ixS r1.1 1 3 fun p30 =>
  fldA p30 0 fun p39 =>
  ldI .u8 aw2 p39 fun x47 =>
  cnd (decide (x47 = 3)) (ixS r1.1 2 3 fun p50 =>
  ∃ b59 i60 c62 c63 c64, p50 = .pointer (some ⟨b59, i60, none⟩) ∧ aw2.get b59 i60 = some (.int .u8 c62) ∧ aw2.get b59 (i60 + 1) = some (.string c63) ∧ aw2.get b59 (i60 + 2) = some (.int .i64 c64) ∧ cnd ((decide (c62 = 1) && (decide (c63 = (⟨#[120, 49]⟩ : ByteArray)) && (decide (c64 = 8) && (true))))) (ixS r1.1 3 3 fun p69 =>
  fldA p69 0 fun p78 =>
  ldI .u8 aw2 p78 fun x86 =>
  Q (decide (x86 = 0)) aw2) (Q false aw2)) (Q false aw2)) (Q false aw2)) (Q false aw2)) (Q false aw2)) E
set_option maxHeartbeats 4000000 in
set_option maxRecDepth 100000 in
theorem S9_0_ok (Q : Bool → AW → Prop) (E : List PanicEntry → AW → Prop)  (ρ : Env)  (aw : AW)  (H : S9_0 Q E   aw) :
    AGo prog 44 [.code C9_0] ρ [] aw (RR prog f9 44 sh9 Q E) := by
  unfold S9_0 at H
  refine ago_seqE E9_0 ?_
  refine ago_regE E9_1 (l := [0]) rfl ?_
  refine lk (dt := some 0) R9_0_N rfl rfl rfl (opv_assign rfl rfl rfl) ?_
  refine aops_nil ?_
  refine ago_seqE E9_2 ?_
  refine ago_regE E9_3 (l := [0, 1, 2, 3, 4, 5, 6, 7]) rfl ?_
  refine lk_call (dt := some 5) R9_1_N rfl rfl rfl (opc_of rfl rfl is10 (ma_cons rfl rfl)) H (fun _ _ h => ⟨rfl, h⟩) fun r1 aw2 H => ?_
  refine lk (dt := some 4) R9_1_N rfl rfl rfl (opv_move rfl rfl rfl) ?_
  refine lk (dt := some 6) R9_1_N rfl rfl rfl (opv_extract rfl rfl rfl rfl) ?_
  refine lk (dt := some 7) R9_1_N rfl rfl rfl (opv_extract rfl rfl rfl rfl) ?_
  refine lk (dt := some 8) R9_1_N rfl rfl rfl (opv_extract rfl rfl rfl rfl) ?_
  refine lk (dt := some 1) R9_1_N rfl rfl rfl (opv_assign rfl rfl rfl) ?_
  refine lk (dt := some 2) R9_1_N rfl rfl rfl (opv_assign rfl rfl rfl) ?_
  refine lk (dt := some 3) R9_1_N rfl rfl rfl (opv_assign rfl rfl rfl) ?_
  refine aops_nil ?_
  refine ago_seqE E9_4 ?_
  refine ago_regE E9_5 (l := [0, 1, 2, 3, 4, 5, 6, 7, 8, 9, 10, 11, 12, 13, 14, 15, 16, 17, 18, 19, 20, 21, 22, 23, 24, 25, 26, 27, 28, 29, 30, 31, 32, 33, 34, 35]) rfl ?_
  refine lk (dt := some 9) R9_2_N rfl rfl rfl (opv_move rfl rfl rfl) ?_
  refine lk (dt := some 10) R9_2_N rfl rfl rfl (opv_eqI rfl rfl rfl rfl rfl) ?_
  refine lk (dt := some 11) R9_2_N rfl rfl rfl (opv_move rfl rfl rfl) ?_
  rcases Bool.eq_false_or_eq_true (decide (r1.2.2 = 0)) with hb3 | hb3
  · replace H := cnd_t H hb3
    refine lk (dt := some 12) R9_2_N rfl rfl ⟨_, rfl, .inl ⟨_, rfl, gq hb3 rfl⟩⟩ (opv_move rfl rfl rfl) ?_
    obtain ⟨q5, l6, c7, n4, hv8, hn9, H⟩ := H
    refine lk (dt := some 13) R9_2_N rfl rfl ⟨_, rfl, .inl ⟨_, rfl, gq hb3 rfl⟩⟩ (ov_len rfl rfl rfl underlying23 rfl hv8 hn9) ?_
    refine lk (dt := some 14) R9_2_N rfl rfl ⟨_, rfl, .inl ⟨_, rfl, gq hb3 rfl⟩⟩ (opv_eqI rfl rfl rfl rfl rfl) ?_
    refine lk (dt := some 15) R9_2_N rfl rfl rfl (ov_pickT rfl rfl rfl rfl rfl hb3 rfl) ?_
    refine lk (dt := some 16) R9_2_N rfl rfl rfl (opv_move rfl rfl rfl) ?_
    rcases Bool.eq_false_or_eq_true (decide (n4 = 4)) with hb10 | hb10
    · replace H := cnd_t H hb10
      refine lk (dt := some 17) R9_2_N rfl rfl ⟨_, rfl, .inl ⟨_, rfl, gq hb10 rfl⟩⟩ (opv_move rfl rfl rfl) ?_
      obtain ⟨b12, i13, l14, c15, p11, hp16, h017, hj18, hv19, H⟩ := H
      refine lk (dt := some 18) R9_2_N rfl rfl ⟨_, rfl, .inl ⟨_, rfl, gq hb10 rfl⟩⟩ (ov_ixS rfl rfl rfl underlying23 sz33 rfl rfl hp16 h017 hj18 hv19) ?_
      obtain ⟨b20, i21, c23, c24, c25, hp22, hg26, hg27, hg28, H⟩ := H
      refine lk (dt := some 19) R9_2_N rfl rfl ⟨_, rfl, .inl ⟨_, rfl, gq hb10 rfl⟩⟩ (ov_ldN rfl underlying33 rfl sz33 rfl rfl hp22 (getN_cons hg26 (getN_cons hg27 (getN_cons hg28 getN_nil)))) ?_
      refine lk (dt := some 20) R9_2_N rfl rfl ⟨_, rfl, .inl ⟨_, rfl, gq hb10 rfl⟩⟩ (ov_bld (r := [.int .u8 1, .string (⟨#[102]⟩ : ByteArray), .int .i64 0]) rfl rfl bo33 (mp_cons rfl (mp_cons rfl rfl)) (fillP rfl rfl rfl rfl (fillP rfl rfl rfl rfl (fillN rfl)))) ?_
      refine lk (dt := some 21) R9_2_N rfl rfl ⟨_, rfl, .inl ⟨_, rfl, gq hb10 rfl⟩⟩ (opv_binP rfl rfl rfl rfl rfl rfl rfl (fun w => eqst33 _ _ _ _ _ _ _ _ w) rfl) ?_
      refine lk (dt := some 22) R9_2_N rfl rfl rfl (ov_pickT rfl rfl rfl rfl rfl hb10 rfl) ?_
      refine lk (dt := some 23) R9_2_N rfl rfl rfl (opv_move rfl rfl rfl) ?_
      rcases Bool.eq_false_or_eq_true ((decide (c23 = 1) && (decide (c24 = (⟨#[102]⟩ : ByteArray)) && (decide (c25 = 0) && (true))))) with hb29 | hb29
      · replace H := cnd_t H hb29
        refine lk (dt := some 24) R9_2_N rfl rfl ⟨_, rfl, .inl ⟨_, rfl, gq hb29 rfl⟩⟩ (opv_move rfl rfl rfl) ?_
        obtain ⟨b31, i32, l33, c34, p30, hp35, h036, hj37, hv38, H⟩ := H
        refine lk (dt := some 25) R9_2_N rfl rfl ⟨_, rfl, .inl ⟨_, rfl, gq hb29 rfl⟩⟩ (ov_ixS rfl rfl rfl underlying23 sz33 rfl rfl hp35 h036 hj37 hv38) ?_
        obtain ⟨b40, i41, p39, hp42, hv43, H⟩ := H
        refine lk (dt := some 26) R9_2_N rfl rfl ⟨_, rfl, .inl ⟨_, rfl, gq hb29 rfl⟩⟩ (ov_fldA rfl rfl underlying33 rfl sz5 (by decide) rfl hp42 rfl hv43) ?_
        obtain ⟨b44, i45, x47, hp46, hg48, H⟩ := H
        refine lk (dt := some 27) R9_2_N rfl rfl ⟨_, rfl, .inl ⟨_, rfl, gq hb29 rfl⟩⟩ (ov_ldI rfl underlying5 rfl rfl hp46 hg48) ?_
        refine lk (dt := some 28) R9_2_N rfl rfl ⟨_, rfl, .inl ⟨_, rfl, gq hb29 rfl⟩⟩ (opv_eqI rfl rfl rfl rfl rfl) ?_
        refine lk (dt := some 29) R9_2_N rfl rfl rfl (ov_pickT rfl rfl rfl rfl rfl hb29 rfl) ?_
        refine lk (dt := some 30) R9_2_N rfl rfl rfl (opv_move rfl rfl rfl) ?_
        rcases Bool.eq_false_or_eq_true (decide (x47 = 3)) with hb49 | hb49
        · replace H := cnd_t H hb49
          refine lk (dt := some 31) R9_2_N rfl rfl ⟨_, rfl, .inl ⟨_, rfl, gq hb49 rfl⟩⟩ (opv_move rfl rfl rfl) ?_
          obtain ⟨b51, i52, l53, c54, p50, hp55, h056, hj57, hv58, H⟩ := H
          refine lk (dt := some 32) R9_2_N rfl rfl ⟨_, rfl, .inl ⟨_, rfl, gq hb49 rfl⟩⟩ (ov_ixS rfl rfl rfl underlying23 sz33 rfl rfl hp55 h056 hj57 hv58) ?_
          obtain ⟨b59, i60, c62, c63, c64, hp61, hg65, hg66, hg67, H⟩ := H
          refine lk (dt := some 33) R9_2_N rfl rfl ⟨_, rfl, .inl ⟨_, rfl, gq hb49 rfl⟩⟩ (ov_ldN rfl underlying33 rfl sz33 rfl rfl hp61 (getN_cons hg65 (getN_cons hg66 (getN_cons hg67 getN_nil)))) ?_
          refine lk (dt := some 34) R9_2_N rfl rfl ⟨_, rfl, .inl ⟨_, rfl, gq hb49 rfl⟩⟩ (ov_bld (r := [.int .u8 1, .string (⟨#[120, 49]⟩ : ByteArray), .int .i64 8]) rfl rfl bo33 (mp_cons rfl (mp_cons rfl (mp_cons rfl rfl))) (fillP rfl rfl rfl rfl (fillP rfl rfl rfl rfl (fillP rfl rfl rfl rfl (fillN rfl))))) ?_
          refine lk (dt := some 35) R9_2_N rfl rfl ⟨_, rfl, .inl ⟨_, rfl, gq hb49 rfl⟩⟩ (opv_binP rfl rfl rfl rfl rfl rfl rfl (fun w => eqst33 _ _ _ _ _ _ _ _ w) rfl) ?_
          refine lk (dt := some 36) R9_2_N rfl rfl rfl (ov_pickT rfl rfl rfl rfl rfl hb49 rfl) ?_
          refine lk (dt := some 37) R9_2_N rfl rfl rfl (opv_move rfl rfl rfl) ?_
          rcases Bool.eq_false_or_eq_true ((decide (c62 = 1) && (decide (c63 = (⟨#[120, 49]⟩ : ByteArray)) && (decide (c64 = 8) && (true))))) with hb68 | hb68
          · replace H := cnd_t H hb68
            refine lk (dt := some 38) R9_2_N rfl rfl ⟨_, rfl, .inl ⟨_, rfl, gq hb68 rfl⟩⟩ (opv_move rfl rfl rfl) ?_
            obtain ⟨b70, i71, l72, c73, p69, hp74, h075, hj76, hv77, H⟩ := H
            refine lk (dt := some 39) R9_2_N rfl rfl ⟨_, rfl, .inl ⟨_, rfl, gq hb68 rfl⟩⟩ (ov_ixS rfl rfl rfl underlying23 sz33 rfl rfl hp74 h075 hj76 hv77) ?_
            obtain ⟨b79, i80, p78, hp81, hv82, H⟩ := H
            refine lk (dt := some 40) R9_2_N rfl rfl ⟨_, rfl, .inl ⟨_, rfl, gq hb68 rfl⟩⟩ (ov_fldA rfl rfl underlying33 rfl sz5 (by decide) rfl hp81 rfl hv82) ?_
            obtain ⟨b83, i84, x86, hp85, hg87, H⟩ := H
            refine lk (dt := some 41) R9_2_N rfl rfl ⟨_, rfl, .inl ⟨_, rfl, gq hb68 rfl⟩⟩ (ov_ldI rfl underlying5 rfl rfl hp85 hg87) ?_
            refine lk (dt := some 42) R9_2_N rfl rfl ⟨_, rfl, .inl ⟨_, rfl, gq hb68 rfl⟩⟩ (opv_eqI rfl rfl rfl rfl rfl) ?_
            refine lk (dt := some 43) R9_2_N rfl rfl rfl (ov_pickT rfl rfl rfl rfl rfl hb68 rfl) ?_
            refine lk (dt := some 0) R9_2_N rfl rfl rfl (opv_assign rfl rfl rfl) ?_
            refine aops_nil ?_
            exact ago_retE E9_6 (r := (decide (x86 = 0))) (ares_1 rfl (oneT rfl)) rfl H
          · replace H := cnd_f H hb68
            refine lk_skip (dt := some 38) R9_2_N rfl rfl ⟨_, rfl, .inl ⟨_, rfl, gq hb68 rfl⟩⟩ ?_
            refine lk_skip (dt := some 39) R9_2_N rfl rfl ⟨_, rfl, .inl ⟨_, rfl, gq hb68 rfl⟩⟩ ?_
            refine lk_skip (dt := some 40) R9_2_N rfl rfl ⟨_, rfl, .inl ⟨_, rfl, gq hb68 rfl⟩⟩ ?_
            refine lk_skip (dt := some 41) R9_2_N rfl rfl ⟨_, rfl, .inl ⟨_, rfl, gq hb68 rfl⟩⟩ ?_
            refine lk_skip (dt := some 42) R9_2_N rfl rfl ⟨_, rfl, .inl ⟨_, rfl, gq hb68 rfl⟩⟩ ?_
            refine lk (dt := some 43) R9_2_N rfl rfl rfl (ov_pickF rfl rfl rfl rfl rfl hb68 rfl) ?_
            refine lk (dt := some 0) R9_2_N rfl rfl rfl (opv_assign rfl rfl rfl) ?_
            refine aops_nil ?_
            exact ago_retE E9_6 (r := false) (ares_1 rfl (oneT rfl)) rfl H
        · replace H := cnd_f H hb49
          refine lk_skip (dt := some 31) R9_2_N rfl rfl ⟨_, rfl, .inl ⟨_, rfl, gq hb49 rfl⟩⟩ ?_
          refine lk_skip (dt := some 32) R9_2_N rfl rfl ⟨_, rfl, .inl ⟨_, rfl, gq hb49 rfl⟩⟩ ?_
          refine lk_skip (dt := some 33) R9_2_N rfl rfl ⟨_, rfl, .inl ⟨_, rfl, gq hb49 rfl⟩⟩ ?_
          refine lk_skip (dt := some 34) R9_2_N rfl rfl ⟨_, rfl, .inl ⟨_, rfl, gq hb49 rfl⟩⟩ ?_
          refine lk_skip (dt := some 35) R9_2_N rfl rfl ⟨_, rfl, .inl ⟨_, rfl, gq hb49 rfl⟩⟩ ?_
          refine lk (dt := some 36) R9_2_N rfl rfl rfl (ov_pickF rfl rfl rfl rfl rfl hb49 rfl) ?_
          refine lk (dt := some 37) R9_2_N rfl rfl rfl (opv_move rfl rfl rfl) ?_
          refine lk_skip (dt := some 38) R9_2_N rfl rfl ⟨_, rfl, .inl ⟨_, rfl, gq rfl rfl⟩⟩ ?_
          refine lk_skip (dt := some 39) R9_2_N rfl rfl ⟨_, rfl, .inl ⟨_, rfl, gq rfl rfl⟩⟩ ?_
          refine lk_skip (dt := some 40) R9_2_N rfl rfl ⟨_, rfl, .inl ⟨_, rfl, gq rfl rfl⟩⟩ ?_
          refine lk_skip (dt := some 41) R9_2_N rfl rfl ⟨_, rfl, .inl ⟨_, rfl, gq rfl rfl⟩⟩ ?_
          refine lk_skip (dt := some 42) R9_2_N rfl rfl ⟨_, rfl, .inl ⟨_, rfl, gq rfl rfl⟩⟩ ?_
          refine lk (dt := some 43) R9_2_N rfl rfl rfl (ov_pickF rfl rfl rfl rfl rfl rfl rfl) ?_
          refine lk (dt := some 0) R9_2_N rfl rfl rfl (opv_assign rfl rfl rfl) ?_
          refine aops_nil ?_
          exact ago_retE E9_6 (r := false) (ares_1 rfl (oneT rfl)) rfl H
      · replace H := cnd_f H hb29
        refine lk_skip (dt := some 24) R9_2_N rfl rfl ⟨_, rfl, .inl ⟨_, rfl, gq hb29 rfl⟩⟩ ?_
        refine lk_skip (dt := some 25) R9_2_N rfl rfl ⟨_, rfl, .inl ⟨_, rfl, gq hb29 rfl⟩⟩ ?_
        refine lk_skip (dt := some 26) R9_2_N rfl rfl ⟨_, rfl, .inl ⟨_, rfl, gq hb29 rfl⟩⟩ ?_
        refine lk_skip (dt := some 27) R9_2_N rfl rfl ⟨_, rfl, .inl ⟨_, rfl, gq hb29 rfl⟩⟩ ?_
        refine lk_skip (dt := some 28) R9_2_N rfl rfl ⟨_, rfl, .inl ⟨_, rfl, gq hb29 rfl⟩⟩ ?_
        refine lk (dt := some 29) R9_2_N rfl rfl rfl (ov_pickF rfl rfl rfl rfl rfl hb29 rfl) ?_
        refine lk (dt := some 30) R9_2_N rfl rfl rfl (opv_move rfl rfl rfl) ?_
        refine lk_skip (dt := some 31) R9_2_N rfl rfl ⟨_, rfl, .inl ⟨_, rfl, gq rfl rfl⟩⟩ ?_
        refine lk_skip (dt := some 32) R9_2_N rfl rfl ⟨_, rfl, .inl ⟨_, rfl, gq rfl rfl⟩⟩ ?_
        refine lk_skip (dt := some 33) R9_2_N rfl rfl ⟨_, rfl, .inl ⟨_, rfl, gq rfl rfl⟩⟩ ?_
        refine lk_skip (dt := some 34) R9_2_N rfl rfl ⟨_, rfl, .inl ⟨_, rfl, gq rfl rfl⟩⟩ ?_
        refine lk_skip (dt := some 35) R9_2_N rfl rfl ⟨_, rfl, .inl ⟨_, rfl, gq rfl rfl⟩⟩ ?_
        refine lk (dt := some 36) R9_2_N rfl rfl rfl (ov_pickF rfl rfl rfl rfl rfl rfl rfl) ?_
        refine lk (dt := some 37) R9_2_N rfl rfl rfl (opv_move rfl rfl rfl) ?_
        refine lk_skip (dt := some 38) R9_2_N rfl rfl ⟨_, rfl, .inl ⟨_, rfl, gq rfl rfl⟩⟩ ?_
        refine lk_skip (dt := some 39) R9_2_N rfl rfl ⟨_, rfl, .inl ⟨_, rfl, gq rfl rfl⟩⟩ ?_
        refine lk_skip (dt := some 40) R9_2_N rfl rfl ⟨_, rfl, .inl ⟨_, rfl, gq rfl rfl⟩⟩ ?_
        refine lk_skip (dt := some 41) R9_2_N rfl rfl ⟨_, rfl, .inl ⟨_, rfl, gq rfl rfl⟩⟩ ?_
        refine lk_skip (dt := some 42) R9_2_N rfl rfl ⟨_, rfl, .inl ⟨_, rfl, gq rfl rfl⟩⟩ ?_
        refine lk (dt := some 43) R9_2_N rfl rfl rfl (ov_pickF rfl rfl rfl rfl rfl rfl rfl) ?_
        refine lk (dt := some 0) R9_2_N rfl rfl rfl (opv_assign rfl rfl rfl) ?_
        refine aops_nil ?_
        exact ago_retE E9_6 (r := false) (ares_1 rfl (oneT rfl)) rfl H
    · replace H := cnd_f H hb10
      refine lk_skip (dt := some 17) R9_2_N rfl rfl ⟨_, rfl, .inl ⟨_, rfl, gq hb10 rfl⟩⟩ ?_
      refine lk_skip (dt := some 18) R9_2_N rfl rfl ⟨_, rfl, .inl ⟨_, rfl, gq hb10 rfl⟩⟩ ?_
      refine lk_skip (dt := some 19) R9_2_N rfl rfl ⟨_, rfl, .inl ⟨_, rfl, gq hb10 rfl⟩⟩ ?_
      refine lk_skip (dt := some 20) R9_2_N rfl rfl ⟨_, rfl, .inl ⟨_, rfl, gq hb10 rfl⟩⟩ ?_
      refine lk_skip (dt := some 21) R9_2_N rfl rfl ⟨_, rfl, .inl ⟨_, rfl, gq hb10 rfl⟩⟩ ?_
      refine lk (dt := some 22) R9_2_N rfl rfl rfl (ov_pickF rfl rfl rfl rfl rfl hb10 rfl) ?_
      refine lk (dt := some 23) R9_2_N rfl rfl rfl (opv_move rfl rfl rfl) ?_
      refine lk_skip (dt := some 24) R9_2_N rfl rfl ⟨_, rfl, .inl ⟨_, rfl, gq rfl rfl⟩⟩ ?_
      refine lk_skip (dt := some 25) R9_2_N rfl rfl ⟨_, rfl, .inl ⟨_, rfl, gq rfl rfl⟩⟩ ?_
      refine lk_skip (dt := some 26) R9_2_N rfl rfl ⟨_, rfl, .inl ⟨_, rfl, gq rfl rfl⟩⟩ ?_
      refine lk_skip (dt := some 27) R9_2_N rfl rfl ⟨_, rfl, .inl ⟨_, rfl, gq rfl rfl⟩⟩ ?_
      refine lk_skip (dt := some 28) R9_2_N rfl rfl ⟨_, rfl, .inl ⟨_, rfl, gq rfl rfl⟩⟩ ?_
      refine lk (dt := some 29) R9_2_N rfl rfl rfl (ov_pickF rfl rfl rfl rfl rfl rfl rfl) ?_
      refine lk (dt := some 30) R9_2_N rfl rfl rfl (opv_move rfl rfl rfl) ?_
      refine lk_skip (dt := some 31) R9_2_N rfl rfl ⟨_, rfl, .inl ⟨_, rfl, gq rfl rfl⟩⟩ ?_
      refine lk_skip (dt := some 32) R9_2_N rfl rfl ⟨_, rfl, .inl ⟨_, rfl, gq rfl rfl⟩⟩ ?_
      refine lk_skip (dt := some 33) R9_2_N rfl rfl ⟨_, rfl, .inl ⟨_, rfl, gq rfl rfl⟩⟩ ?_
      refine lk_skip (dt := some 34) R9_2_N rfl rfl ⟨_, rfl, .inl ⟨_, rfl, gq rfl rfl⟩⟩ ?_
      refine lk_skip (dt := some 35) R9_2_N rfl rfl ⟨_, rfl, .inl ⟨_, rfl, gq rfl rfl⟩⟩ ?_
      refine lk (dt := some 36) R9_2_N rfl rfl rfl (ov_pickF rfl rfl rfl rfl rfl rfl rfl) ?_
      refine lk (dt := some 37) R9_2_N rfl rfl rfl (opv_move rfl rfl rfl) ?_
      refine lk_skip (dt := some 38) R9_2_N rfl rfl ⟨_, rfl, .inl ⟨_, rfl, gq rfl rfl⟩⟩ ?_
      refine lk_skip (dt := some 39) R9_2_N rfl rfl ⟨_, rfl, .inl ⟨_, rfl, gq rfl rfl⟩⟩ ?_
      refine lk_skip (dt := some 40) R9_2_N rfl rfl ⟨_, rfl, .inl ⟨_, rfl, gq rfl rfl⟩⟩ ?_
      refine lk_skip (dt := some 41) R9_2_N rfl rfl ⟨_, rfl, .inl ⟨_, rfl, gq rfl rfl⟩⟩ ?_
      refine lk_skip (dt := some 42) R9_2_N rfl rfl ⟨_, rfl, .inl ⟨_, rfl, gq rfl rfl⟩⟩ ?_
      refine lk (dt := some 43) R9_2_N rfl rfl rfl (ov_pickF rfl rfl rfl rfl rfl rfl rfl) ?_
      refine lk (dt := some 0) R9_2_N rfl rfl rfl (opv_assign rfl rfl rfl) ?_
      refine aops_nil ?_
      exact ago_retE E9_6 (r := false) (ares_1 rfl (oneT rfl)) rfl H
  · replace H := cnd_f H hb3
    refine lk_skip (dt := some 12) R9_2_N rfl rfl ⟨_, rfl, .inl ⟨_, rfl, gq hb3 rfl⟩⟩ ?_
    refine lk_skip (dt := some 13) R9_2_N rfl rfl ⟨_, rfl, .inl ⟨_, rfl, gq hb3 rfl⟩⟩ ?_
    refine lk_skip (dt := some 14) R9_2_N rfl rfl ⟨_, rfl, .inl ⟨_, rfl, gq hb3 rfl⟩⟩ ?_
    refine lk (dt := some 15) R9_2_N rfl rfl rfl (ov_pickF rfl rfl rfl rfl rfl hb3 rfl) ?_
    refine lk (dt := some 16) R9_2_N rfl rfl rfl (opv_move rfl rfl rfl) ?_
    refine lk_skip (dt := some 17) R9_2_N rfl rfl ⟨_, rfl, .inl ⟨_, rfl, gq rfl rfl⟩⟩ ?_
    refine lk_skip (dt := some 18) R9_2_N rfl rfl ⟨_, rfl, .inl ⟨_, rfl, gq rfl rfl⟩⟩ ?_
    refine lk_skip (dt := some 19) R9_2_N rfl rfl ⟨_, rfl, .inl ⟨_, rfl, gq rfl rfl⟩⟩ ?_
    refine lk_skip (dt := some 20) R9_2_N rfl rfl ⟨_, rfl, .inl ⟨_, rfl, gq rfl rfl⟩⟩ ?_
    refine lk_skip (dt := some 21) R9_2_N rfl rfl ⟨_, rfl, .inl ⟨_, rfl, gq rfl rfl⟩⟩ ?_
    refine lk (dt := some 22) R9_2_N rfl rfl rfl (ov_pickF rfl rfl rfl rfl rfl rfl rfl) ?_
    refine lk (dt := some 23) R9_2_N rfl rfl rfl (opv_move rfl rfl rfl) ?_
    refine lk_skip (dt := some 24) R9_2_N rfl rfl ⟨_, rfl, .inl ⟨_, rfl, gq rfl rfl⟩⟩ ?_
    refine lk_skip (dt := some 25) R9_2_N rfl rfl ⟨_, rfl, .inl ⟨_, rfl, gq rfl rfl⟩⟩ ?_
    refine lk_skip (dt := some 26) R9_2_N rfl rfl ⟨_, rfl, .inl ⟨_, rfl, gq rfl rfl⟩⟩ ?_
    refine lk_skip (dt := some 27) R9_2_N rfl rfl ⟨_, rfl, .inl ⟨_, rfl, gq rfl rfl⟩⟩ ?_
    refine lk_skip (dt := some 28) R9_2_N rfl rfl ⟨_, rfl, .inl ⟨_, rfl, gq rfl rfl⟩⟩ ?_
    refine lk (dt := some 29) R9_2_N rfl rfl rfl (ov_pickF rfl rfl rfl rfl rfl rfl rfl) ?_
    refine lk (dt := some 30) R9_2_N rfl rfl rfl (opv_move rfl rfl rfl) ?_
    refine lk_skip (dt := some 31) R9_2_N rfl rfl ⟨_, rfl, .inl ⟨_, rfl, gq rfl rfl⟩⟩ ?_
    refine lk_skip (dt := some 32) R9_2_N rfl rfl ⟨_, rfl, .inl ⟨_, rfl, gq rfl rfl⟩⟩ ?_
    refine lk_skip (dt := some 33) R9_2_N rfl rfl ⟨_, rfl, .inl ⟨_, rfl, gq rfl rfl⟩⟩ ?_
    refine lk_skip (dt := some 34) R9_2_N rfl rfl ⟨_, rfl, .inl ⟨_, rfl, gq rfl rfl⟩⟩ ?_
    refine lk_skip (dt := some 35) R9_2_N rfl rfl ⟨_, rfl, .inl ⟨_, rfl, gq rfl rfl⟩⟩ ?_
    refine lk (dt := some 36) R9_2_N rfl rfl rfl (ov_pickF rfl rfl rfl rfl rfl rfl rfl) ?_
    refine lk (dt := some 37) R9_2_N rfl rfl rfl (opv_move rfl rfl rfl) ?_
    refine lk_skip (dt := some 38) R9_2_N rfl rfl ⟨_, rfl, .inl ⟨_, rfl, gq rfl rfl⟩⟩ ?_
    refine lk_skip (dt := some 39) R9_2_N rfl rfl ⟨_, rfl, .inl ⟨_, rfl, gq rfl rfl⟩⟩ ?_
    refine lk_skip (dt := some 40) R9_2_N rfl rfl ⟨_, rfl, .inl ⟨_, rfl, gq rfl rfl⟩⟩ ?_
    refine lk_skip (dt := some 41) R9_2_N rfl rfl ⟨_, rfl, .inl ⟨_, rfl, gq rfl rfl⟩⟩ ?_
    refine lk_skip (dt := some 42) R9_2_N rfl rfl ⟨_, rfl, .inl ⟨_, rfl, gq rfl rfl⟩⟩ ?_
    refine lk (dt := some 43) R9_2_N rfl rfl rfl (ov_pickF rfl rfl rfl rfl rfl rfl rfl) ?_
    refine lk (dt := some 0) R9_2_N rfl rfl rfl (opv_assign rfl rfl rfl) ?_
    refine aops_nil ?_
    exact ago_retE E9_6 (r := false) (ares_1 rfl (oneT rfl)) rfl H
theorem F9_ok {Q : Bool → AW → Prop} {E : List PanicEntry → AW → Prop}  (aw : AW) (H : S9_0 Q E  aw) : CallP prog 9 [] aw sh9 Q E :=
  callP_of func9 C9_is rfl (Nat.le_of_ble_eq_true rfl) (S9_0_ok Q E _  aw  H)
/-! ### battledore/battledorelaw03.LexNames: function 6 -/
noncomputable def C6_0 : Code := bodyOf f6
theorem C6_is : f6.body = some C6_0 := by kernel_rfl
noncomputable def C6_1 : Code := cl C6_0
noncomputable def R6_0 : Array Oper := regOps C6_1
noncomputable def C6_2 : Code := cr C6_0
noncomputable def C6_3 : Code := cl C6_2
noncomputable def C6_4 : Code := cl C6_3
noncomputable def R6_1 : Array Oper := regOps C6_4
noncomputable def C6_5 : Code := cr C6_3
noncomputable def C6_6 : Code := cl C6_5
noncomputable def C6_7 : Code := cl C6_6
noncomputable def R6_2 : Array Oper := regOps C6_7
noncomputable def C6_8 : Code := cr C6_6
noncomputable def C6_9 : Code := cr C6_5
noncomputable def C6_10 : Code := cr C6_2
noncomputable def C6_11 : Code := cl C6_10
noncomputable def R6_3 : Array Oper := regOps C6_11
noncomputable def C6_12 : Code := cr C6_10
noncomputable def C6_13 : Code := cl C6_12
noncomputable def R6_4 : Array Oper := regOps C6_13
noncomputable def C6_14 : Code := cr C6_12
noncomputable def C6_15 : Code := cl C6_14
noncomputable def C6_16 : Code := cl C6_15
noncomputable def R6_5 : Array Oper := regOps C6_16
noncomputable def C6_17 : Code := cr C6_15
noncomputable def C6_18 : Code := cl C6_17
noncomputable def C6_19 : Code := cl C6_18
noncomputable def C6_20 : Code := cl C6_19
noncomputable def C6_21 : Code := cl C6_20
noncomputable def R6_6 : Array Oper := regOps C6_21
noncomputable def C6_22 : Code := cr C6_20
noncomputable def C6_23 : Code := cl C6_22
noncomputable def C6_24 : Code := cr C6_22
noncomputable def C6_25 : Code := cr C6_19
noncomputable def C6_26 : Code := cl C6_25
noncomputable def C6_27 : Code := cl C6_26
noncomputable def C6_28 : Code := cl C6_27
noncomputable def R6_8 : Array Oper := regOps C6_28
noncomputable def C6_29 : Code := cr C6_27
noncomputable def R6_9 : Array Oper := regOps C6_29
noncomputable def C6_30 : Code := cr C6_25
noncomputable def R6_7 : Array Oper := regOps C6_30
noncomputable def C6_31 : Code := cr C6_14
noncomputable def C6_32 : Code := cl C6_31
noncomputable def R6_10 : Array Oper := regOps C6_32
noncomputable def C6_33 : Code := cr C6_31
noncomputable def C6_34 : Code := cl C6_33
noncomputable def C6_35 : Code := cl C6_34
noncomputable def R6_11 : Array Oper := regOps C6_35
noncomputable def C6_36 : Code := cr C6_34
noncomputable def C6_37 : Code := cl C6_36
noncomputable def C6_38 : Code := cl C6_37
noncomputable def R6_12 : Array Oper := regOps C6_38
noncomputable def C6_39 : Code := cr C6_37
noncomputable def C6_40 : Code := cr C6_36
noncomputable def C6_41 : Code := cr C6_33
noncomputable def C6_42 : Code := cl C6_41
noncomputable def R6_13 : Array Oper := regOps C6_42
noncomputable def C6_43 : Code := cr C6_41
noncomputable def C6_44 : Code := cl C6_43
noncomputable def C6_45 : Code := cl C6_44
noncomputable def R6_14 : Array Oper := regOps C6_45
noncomputable def C6_46 : Code := cr C6_44
noncomputable def C6_47 : Code := cl C6_46
noncomputable def C6_48 : Code := cl C6_47
noncomputable def R6_15 : Array Oper := regOps C6_48
noncomputable def C6_49 : Code := cr C6_47
noncomputable def C6_50 : Code := cr C6_46
noncomputable def C6_51 : Code := cr C6_43
noncomputable def C6_52 : Code := cl C6_51
noncomputable def C6_53 : Code := cl C6_52
noncomputable def R6_16 : Array Oper := regOps C6_53
noncomputable def C6_54 : Code := cr C6_52
noncomputable def C6_55 : Code := cl C6_54
noncomputable def C6_56 : Code := cl C6_55
noncomputable def R6_17 : Array Oper := regOps C6_56
noncomputable def C6_57 : Code := cr C6_55
noncomputable def C6_58 : Code := cl C6_57
noncomputable def R6_18 : Array Oper := regOps C6_58
noncomputable def C6_59 : Code := cr C6_57
noncomputable def C6_60 : Code := cr C6_54
noncomputable def C6_61 : Code := cr C6_51
noncomputable def C6_62 : Code := cl C6_61
noncomputable def R6_19 : Array Oper := regOps C6_62
noncomputable def C6_63 : Code := cr C6_61
noncomputable def C6_64 : Code := cl C6_63
noncomputable def C6_65 : Code := cl C6_64
noncomputable def R6_20 : Array Oper := regOps C6_65
noncomputable def C6_66 : Code := cr C6_64
noncomputable def C6_67 : Code := cl C6_66
noncomputable def R6_21 : Array Oper := regOps C6_67
noncomputable def C6_68 : Code := cr C6_66
noncomputable def C6_69 : Code := cr C6_63
noncomputable def C6_70 : Code := cl C6_69
noncomputable def R6_22 : Array Oper := regOps C6_70
noncomputable def C6_71 : Code := cr C6_69
theorem R6_0_N : dstsOk 159 R6_0 = true := by decide +kernel
theorem E6_1 : C6_1 = .region 0 R6_0 false := rfl
theorem R6_1_N : dstsOk 159 R6_1 = true := by decide +kernel
theorem E6_4 : C6_4 = .region 1 R6_1 false := rfl
theorem R6_2_N : dstsOk 159 R6_2 = true := by decide +kernel
theorem E6_7 : C6_7 = .region 2 R6_2 false := rfl
theorem E6_8 : C6_8 = .ret := rfl
theorem E6_6 : C6_6 = .seq C6_7 C6_8 := rfl
theorem E6_9 : C6_9 = .skip := rfl
theorem E6_5 : C6_5 = .cond (.tmp 24) C6_6 C6_9 := rfl
theorem E6_3 : C6_3 = .seq C6_4 C6_5 := rfl
theorem R6_3_N : dstsOk 159 R6_3 = true := by decide +kernel
theorem E6_11 : C6_11 = .region 3 R6_3 false := rfl
theorem R6_4_N : dstsOk 159 R6_4 = true := by decide +kernel
theorem E6_13 : C6_13 = .region 4 R6_4 false := rfl
theorem R6_5_N : dstsOk 159 R6_5 = true := by decide +kernel
theorem E6_16 : C6_16 = .region 5 R6_5 false := rfl
theorem R6_6_N : dstsOk 159 R6_6 = true := by decide +kernel
theorem E6_21 : C6_21 = .region 6 R6_6 false := rfl
theorem E6_23 : C6_23 = .skip := rfl
theorem E6_24 : C6_24 = .exit 0 := rfl
theorem E6_22 : C6_22 = .cond (.tmp 29) C6_23 C6_24 := rfl
theorem E6_20 : C6_20 = .seq C6_21 C6_22 := rfl
theorem R6_8_N : dstsOk 159 R6_8 = true := by decide +kernel
theorem E6_28 : C6_28 = .region 8 R6_8 false := rfl
theorem R6_9_N : dstsOk 159 R6_9 = true := by decide +kernel
theorem E6_29 : C6_29 = .region 9 R6_9 false := rfl
theorem E6_27 : C6_27 = .seq C6_28 C6_29 := rfl
theorem E6_26 : C6_26 = .block 1 C6_27 := rfl
theorem R6_7_N : dstsOk 159 R6_7 = true := by decide +kernel
theorem E6_30 : C6_30 = .region 7 R6_7 false := rfl
theorem E6_25 : C6_25 = .seq C6_26 C6_30 := rfl
theorem E6_19 : C6_19 = .seq C6_20 C6_25 := rfl
theorem E6_18 : C6_18 = .loop C6_19 := rfl
theorem E6_17 : C6_17 = .block 0 C6_18 := rfl
theorem E6_15 : C6_15 = .seq C6_16 C6_17 := rfl
theorem R6_10_N : dstsOk 159 R6_10 = true := by decide +kernel
theorem E6_32 : C6_32 = .region 10 R6_10 false := rfl
theorem R6_11_N : dstsOk 159 R6_11 = true := by decide +kernel
theorem E6_35 : C6_35 = .region 11 R6_11 false := rfl
theorem R6_12_N : dstsOk 159 R6_12 = true := by decide +kernel
theorem E6_38 : C6_38 = .region 12 R6_12 false := rfl
theorem E6_39 : C6_39 = .ret := rfl
theorem E6_37 : C6_37 = .seq C6_38 C6_39 := rfl
theorem E6_40 : C6_40 = .skip := rfl
theorem E6_36 : C6_36 = .cond (.tmp 58) C6_37 C6_40 := rfl
theorem E6_34 : C6_34 = .seq C6_35 C6_36 := rfl
theorem R6_13_N : dstsOk 159 R6_13 = true := by decide +kernel
theorem E6_42 : C6_42 = .region 13 R6_13 false := rfl
theorem R6_14_N : dstsOk 159 R6_14 = true := by decide +kernel
theorem E6_45 : C6_45 = .region 14 R6_14 false := rfl
theorem R6_15_N : dstsOk 159 R6_15 = true := by decide +kernel
theorem E6_48 : C6_48 = .region 15 R6_15 false := rfl
theorem E6_49 : C6_49 = .ret := rfl
theorem E6_47 : C6_47 = .seq C6_48 C6_49 := rfl
theorem E6_50 : C6_50 = .skip := rfl
theorem E6_46 : C6_46 = .cond (.tmp 67) C6_47 C6_50 := rfl
theorem E6_44 : C6_44 = .seq C6_45 C6_46 := rfl
theorem R6_16_N : dstsOk 159 R6_16 = true := by decide +kernel
theorem E6_53 : C6_53 = .region 16 R6_16 false := rfl
theorem R6_17_N : dstsOk 159 R6_17 = true := by decide +kernel
theorem E6_56 : C6_56 = .region 17 R6_17 false := rfl
theorem R6_18_N : dstsOk 159 R6_18 = true := by decide +kernel
theorem E6_58 : C6_58 = .region 18 R6_18 false := rfl
theorem E6_59 : C6_59 = .ret := rfl
theorem E6_57 : C6_57 = .seq C6_58 C6_59 := rfl
theorem E6_55 : C6_55 = .seq C6_56 C6_57 := rfl
theorem E6_60 : C6_60 = .skip := rfl
theorem E6_54 : C6_54 = .cond (.tmp 75) C6_55 C6_60 := rfl
theorem E6_52 : C6_52 = .seq C6_53 C6_54 := rfl
theorem R6_19_N : dstsOk 159 R6_19 = true := by decide +kernel
theorem E6_62 : C6_62 = .region 19 R6_19 false := rfl
theorem R6_20_N : dstsOk 159 R6_20 = true := by decide +kernel
theorem E6_65 : C6_65 = .region 20 R6_20 false := rfl
theorem R6_21_N : dstsOk 159 R6_21 = true := by decide +kernel
theorem E6_67 : C6_67 = .region 21 R6_21 false := rfl
theorem E6_68 : C6_68 = .skip := rfl
theorem E6_66 : C6_66 = .cond (.tmp 131) C6_67 C6_68 := rfl
theorem E6_64 : C6_64 = .seq C6_65 C6_66 := rfl
theorem R6_22_N : dstsOk 159 R6_22 = true := by decide +kernel
theorem E6_70 : C6_70 = .region 22 R6_22 false := rfl
theorem E6_71 : C6_71 = .ret := rfl
theorem E6_69 : C6_69 = .seq C6_70 C6_71 := rfl
theorem E6_63 : C6_63 = .seq C6_64 C6_69 := rfl
theorem E6_61 : C6_61 = .seq C6_62 C6_63 := rfl
theorem E6_51 : C6_51 = .seq C6_52 C6_61 := rfl
theorem E6_43 : C6_43 = .seq C6_44 C6_51 := rfl
theorem E6_41 : C6_41 = .seq C6_42 C6_43 := rfl
theorem E6_33 : C6_33 = .seq C6_34 C6_41 := rfl
theorem E6_31 : C6_31 = .seq C6_32 C6_33 := rfl
theorem E6_14 : C6_14 = .seq C6_15 C6_31 := rfl
theorem E6_12 : C6_12 = .seq C6_13 C6_14 := rfl
theorem E6_10 : C6_10 = .seq C6_11 C6_12 := rfl
theorem E6_2 : C6_2 = .seq C6_3 C6_10 := rfl
theorem E6_0 : C6_0 = .seq C6_1 C6_2 := rfl
def S6_4 (Q : Bool → AW → Prop) (E : List PanicEntry → AW → Prop)  (s_4 : ByteArray) (l_8 : Value) (at_9 : Int) (e_10 : Int) (ok_11 : Bool) (aw : AW) : Prop :=
  cnd ok_11 (cnd (decide (e_10 = 0)) (slen l_8 fun n3 =>
  cnd (decide (n3 = 2)) (ixS l_8 0 3 fun p10 =>
  fldA p10 0 fun p19 =>
  ldI .u8 aw p19 fun x27 =>
  cnd (decide (x27 = 3)) (ixS l_8 0 3 fun p30 =>
  fldA p30 1 fun p39 =>
  ldS aw p39 fun x47 =>
  cnd (decide (x47 = s_4)) (Q true aw) (cnd (!ok_11) (cnd (decide (e_10 = 4)) (Q (decide (at_9 = 1)) aw) (Q false aw)) (Q false aw))) (cnd (!ok_11) (cnd (decide (e_10 = 4)) (Q (decide (at_9 = 1)) aw) (Q false aw)) (Q false aw))) (cnd (!ok_11) (cnd (decide (e_10 = 4)) (Q (decide (at_9 = 1)) aw) (Q false aw)) (Q false aw))) (cnd (!ok_11) (cnd (decide (e_10 = 4)) (Q (decide (at_9 = 1)) aw) (Q false aw)) (Q false aw))) (cnd (!ok_11) (cnd (decide (e_10 = 4)) (Q (decide (at_9 = 1)) aw) (Q false aw)) (Q false aw))
def S6_3 (Q : Bool → AW → Prop) (E : List PanicEntry → AW → Prop)  (s_4 : ByteArray) (l_8 : Value) (e_10 : Int) (want_12 : Int) (aw : AW) : Prop :=
  cnd (decide (e_10 = 0)) (slen l_8 fun n61 =>
  cnd (decide (n61 = 2)) (ixS l_8 0 3 fun p68 =>
  fldA p68 1 fun p77 =>
  ldS aw p77 fun x85 =>
  cnd (decide (x85 = s_4)) (ixS l_8 0 3 fun p88 =>
  fldA p88 0 fun p97 =>
  ldI .u8 aw p97 fun x105 =>
  cnd (decide (x105 = want_12)) (Q true aw) (CallP prog 13 [.string s_4] aw sh13 (fun r108 aw109 =>
  Q r108 aw109) E)) (Q false aw)) (Q false aw)) (Q false aw)
def S6_2 (Q : Bool → AW → Prop) (E : List PanicEntry → AW → Prop)  (s_4 : ByteArray) (c_7 : Int) (t_58 : Bool) (aw : AW) : Prop :=
  cnd t_58 (Q true aw) (CallP prog 10 [.string s_4] aw sh10 (fun r111 aw112 =>
  cnd (decide (24 < (s_4.size : Int))) (cnd (decide (r111.2.2 = 2)) (Q (decide (r111.2.1 = 0)) aw112) (Q false aw112)) (cnd (decide (c_7 = 39)) (cnd (decide (1 < (s_4.size : Int))) (chr s_4 1 fun c117 =>
  cnd (decide (97 ≤ c117)) (chr s_4 1 fun c122 =>
  S6_4 Q E  s_4 r111.1 r111.2.1 r111.2.2 (decide (c122 ≤ 122)) aw112) (S6_4 Q E  s_4 r111.1 r111.2.1 r111.2.2 false aw112)) (S6_4 Q E  s_4 r111.1 r111.2.1 r111.2.2 false aw112)) (cnd (decide (65 ≤ c_7)) (cnd (decide (c_7 ≤ 90)) (S6_3 Q E  s_4 r111.1 r111.2.2 2 aw112) (S6_3 Q E  s_4 r111.1 r111.2.2 1 aw112)) (S6_3 Q E  s_4 r111.1 r111.2.2 1 aw112)))) E)
def S6_1s (Q : Bool → AW → Prop) (E : List PanicEntry → AW → Prop)  (nx1 : Value → ByteArray → ByteArray → Int → AW → Prop) (p_0 : Value) (in_3 : ByteArray) (s_4 : ByteArray) (i_5 : Int) (aw : AW) : Prop :=
  slen p_0 fun n129 =>
  cnd (decide (i_5 < n129)) (ixS p_0 i_5 1 fun p136 =>
  ldI .u8 aw p136 fun x148 =>
  (in_3.size : Int) ≠ 0 ∧ cutS in_3 (Int.tmod (IntKind.i64.wrap x148) (in_3.size : Int)) (IntKind.i64.wrap ((Int.tmod (IntKind.i64.wrap x148) (in_3.size : Int)) + 1)) fun s151 =>
  s_4.size + s151.size ≤ 2 ^ 62 ∧ nx1 p_0 in_3 (s_4 ++ s151) (IntKind.i64.wrap (i_5 + 1)) aw) (chr s_4 0 fun c157 =>
  cnd (decide (48 ≤ c157)) (cnd (decide (c157 ≤ 57)) (S6_2 Q E  s_4 c157 true aw) (S6_2 Q E  s_4 c157 (decide (c157 = 95)) aw)) (S6_2 Q E  s_4 c157 (decide (c157 = 95)) aw))
def S6_1 (Q : Bool → AW → Prop) (E : List PanicEntry → AW → Prop)  : Nat → Value → ByteArray → ByteArray → Int → AW → Prop
  | 0 => fun _ _ _ _ _ => False
  | n + 1 => S6_1s Q E  (S6_1 Q E  n)
def S6_0 (Q : Bool → AW → Prop) (E : List PanicEntry → AW → Prop)  (p_0 : Value) (aw : AW) : Prop :=
  CallP prog 9 [] aw sh9 (fun r163 aw164 =>
  cnd (!r163) (CallP prog 9 [] aw164 sh9 (fun r167 aw168 =>
  Q r167 aw168) E) (slen p_0 fun n169 =>
  cnd (decide (n169 = 0)) (CallP prog 9 [] aw164 sh9 (fun r177 aw178 =>
  Q r177 aw178) E) (slen p_0 fun n179 =>
  cnd (decide (60 < n179)) (CallP prog 9 [] aw164 sh9 (fun r186 aw187 =>
  Q r186 aw187) E) (∃ n, S6_1 Q E  n p_0 (⟨#[97, 98, 99, 120, 121, 122, 65, 66, 88, 89, 90, 48, 49, 56, 57, 95, 39]⟩ : ByteArray) (⟨#[]⟩ : ByteArray) 0 aw164)))) E
set_option maxHeartbeats 4000000 in
set_option maxRecDepth 100000 in
theorem S6_4_ok (Q : Bool → AW → Prop) (E : List PanicEntry → AW → Prop)  (ρ : Env) (s_4 : ByteArray) (l_8 : Value) (at_9 : Int) (e_10 : Int) (ok_11 : Bool) (aw : AW) (h4 : ρ 4 = .string s_4) (h8 : ρ 8 = l_8) (h9 : ρ 9 = .int .i64 at_9) (h10 : ρ 10 = .int .i64 e_10) (h11 : ρ 11 = .bool ok_11) (H : S6_4 Q E  s_4 l_8 at_9 e_10 ok_11 aw) :
    AGo prog 159 [.code C6_57, .code C6_61] ρ [] aw (RR prog f6 159 sh6 Q E) := by
  unfold S6_4 at H
  refine ago_seqE E6_57 ?_
  refine ago_regE E6_58 (l := [0, 1, 2, 3, 4, 5, 6, 7, 8, 9, 10, 11, 12, 13, 14, 15, 16, 17, 18, 19, 20, 21, 22, 23, 24, 25, 26, 27, 28, 29, 30, 31, 32, 33, 34, 35, 36, 37]) rfl ?_
  refine lk (dt := some 89) R6_18_N rfl rfl rfl (opv_move rfl rfl h11) ?_
  refine lk (dt := some 90) R6_18_N rfl rfl rfl (opv_move rfl rfl rfl) ?_
  rcases Bool.eq_false_or_eq_true ok_11 with hb1 | hb1
  · replace H := cnd_t H hb1
    refine lk (dt := some 91) R6_18_N rfl rfl ⟨_, rfl, .inl ⟨_, rfl, gq hb1 rfl⟩⟩ (opv_move rfl rfl h10) ?_
    refine lk (dt := some 92) R6_18_N rfl rfl ⟨_, rfl, .inl ⟨_, rfl, gq hb1 rfl⟩⟩ (opv_eqI rfl rfl rfl rfl rfl) ?_
    refine lk (dt := some 93) R6_18_N rfl rfl rfl (ov_pickT rfl rfl rfl rfl rfl hb1 rfl) ?_
    refine lk (dt := some 94) R6_18_N rfl rfl rfl (opv_move rfl rfl rfl) ?_
    rcases Bool.eq_false_or_eq_true (decide (e_10 = 0)) with hb2 | hb2
    · replace H := cnd_t H hb2
      refine lk (dt := some 95) R6_18_N rfl rfl ⟨_, rfl, .inl ⟨_, rfl, gq hb2 rfl⟩⟩ (opv_move rfl rfl h8) ?_
      obtain ⟨q4, l5, c6, n3, hv7, hn8, H⟩ := H
      refine lk (dt := some 96) R6_18_N rfl rfl ⟨_, rfl, .inl ⟨_, rfl, gq hb2 rfl⟩⟩ (ov_len rfl rfl rfl underlying23 rfl hv7 hn8) ?_
      refine lk (dt := some 97) R6_18_N rfl rfl ⟨_, rfl, .inl ⟨_, rfl, gq hb2 rfl⟩⟩ (opv_eqI rfl rfl rfl rfl rfl) ?_
      refine lk (dt := some 98) R6_18_N rfl rfl rfl (ov_pickT rfl rfl rfl rfl rfl hb2 rfl) ?_
      refine lk (dt := some 99) R6_18_N rfl rfl rfl (opv_move rfl rfl rfl) ?_
      rcases Bool.eq_false_or_eq_true (decide (n3 = 2)) with hb9 | hb9
      · replace H := cnd_t H hb9
        refine lk (dt := some 100) R6_18_N rfl rfl ⟨_, rfl, .inl ⟨_, rfl, gq hb9 rfl⟩⟩ (opv_move rfl rfl h8) ?_
        obtain ⟨b11, i12, l13, c14, p10, hp15, h016, hj17, hv18, H⟩ := H
        refine lk (dt := some 101) R6_18_N rfl rfl ⟨_, rfl, .inl ⟨_, rfl, gq hb9 rfl⟩⟩ (ov_ixS rfl rfl rfl underlying23 sz33 rfl rfl hp15 h016 hj17 hv18) ?_
        obtain ⟨b20, i21, p19, hp22, hv23, H⟩ := H
        refine lk (dt := some 102) R6_18_N rfl rfl ⟨_, rfl, .inl ⟨_, rfl, gq hb9 rfl⟩⟩ (ov_fldA rfl rfl underlying33 rfl sz5 (by decide) rfl hp22 rfl hv23) ?_
        obtain ⟨b24, i25, x27, hp26, hg28, H⟩ := H
        refine lk (dt := some 103) R6_18_N rfl rfl ⟨_, rfl, .inl ⟨_, rfl, gq hb9 rfl⟩⟩ (ov_ldI rfl underlying5 rfl rfl hp26 hg28) ?_
        refine lk (dt := some 104) R6_18_N rfl rfl ⟨_, rfl, .inl ⟨_, rfl, gq hb9 rfl⟩⟩ (opv_eqI rfl rfl rfl rfl rfl) ?_
        refine lk (dt := some 105) R6_18_N rfl rfl rfl (ov_pickT rfl rfl rfl rfl rfl hb9 rfl) ?_
        refine lk (dt := some 106) R6_18_N rfl rfl rfl (opv_move rfl rfl rfl) ?_
        rcases Bool.eq_false_or_eq_true (decide (x27 = 3)) with hb29 | hb29
        · replace H := cnd_t H hb29
          refine lk (dt := some 107) R6_18_N rfl rfl ⟨_, rfl, .inl ⟨_, rfl, gq hb29 rfl⟩⟩ (opv_move rfl rfl h8) ?_
          obtain ⟨b31, i32, l33, c34, p30, hp35, h036, hj37, hv38, H⟩ := H
          refine lk (dt := some 108) R6_18_N rfl rfl ⟨_, rfl, .inl ⟨_, rfl, gq hb29 rfl⟩⟩ (ov_ixS rfl rfl rfl underlying23 sz33 rfl rfl hp35 h036 hj37 hv38) ?_
          obtain ⟨b40, i41, p39, hp42, hv43, H⟩ := H
          refine lk (dt := some 109) R6_18_N rfl rfl ⟨_, rfl, .inl ⟨_, rfl, gq hb29 rfl⟩⟩ (ov_fldA rfl rfl underlying33 rfl sz9 (by decide) rfl hp42 rfl hv43) ?_
          obtain ⟨b44, i45, x47, hp46, hg48, H⟩ := H
          refine lk (dt := some 110) R6_18_N rfl rfl ⟨_, rfl, .inl ⟨_, rfl, gq hb29 rfl⟩⟩ (ov_ldS rfl underlying9 rfl rfl hp46 hg48) ?_
          refine lk (dt := some 111) R6_18_N rfl rfl ⟨_, rfl, .inl ⟨_, rfl, gq hb29 rfl⟩⟩ (opv_move rfl rfl h4) ?_
          refine lk (dt := some 112) R6_18_N rfl rfl ⟨_, rfl, .inl ⟨_, rfl, gq hb29 rfl⟩⟩ (opv_eqS rfl rfl rfl rfl rfl) ?_
          refine lk (dt := some 113) R6_18_N rfl rfl rfl (ov_pickT rfl rfl rfl rfl rfl hb29 rfl) ?_
          refine lk (dt := some 114) R6_18_N rfl rfl rfl (opv_move rfl rfl rfl) ?_
          rcases Bool.eq_false_or_eq_true (decide (x47 = s_4)) with hb49 | hb49
          · replace H := cnd_t H hb49
            refine lk_skip (dt := some 115) R6_18_N rfl rfl ⟨_, rfl, .inl ⟨_, rfl, gq hb49 rfl⟩⟩ ?_
            refine lk_skip (dt := some 116) R6_18_N rfl rfl ⟨_, rfl, .inl ⟨_, rfl, gq hb49 rfl⟩⟩ ?_
            refine lk_skip (dt := some 117) R6_18_N rfl rfl ⟨_, rfl, .inl ⟨_, rfl, gq hb49 rfl⟩⟩ ?_
            refine lk_skip (dt := some 118) R6_18_N rfl rfl ⟨_, rfl, .inr ⟨rfl, rfl⟩⟩ ?_
            refine lk_skip (dt := some 119) R6_18_N rfl rfl ⟨_, rfl, .inr ⟨rfl, rfl⟩⟩ ?_
            refine lk_skip (dt := some 120) R6_18_N rfl rfl ⟨_, rfl, .inl ⟨_, rfl, gq hb49 rfl⟩⟩ ?_
            refine lk_skip (dt := some 121) R6_18_N rfl rfl ⟨_, rfl, .inl ⟨_, rfl, gq hb49 rfl⟩⟩ ?_
            refine lk_skip (dt := some 122) R6_18_N rfl rfl ⟨_, rfl, .inr ⟨rfl, rfl⟩⟩ ?_
            refine lk_skip (dt := some 123) R6_18_N rfl rfl ⟨_, rfl, .inr ⟨rfl, rfl⟩⟩ ?_
            refine lk_skip (dt := some 124) R6_18_N rfl rfl ⟨_, rfl, .inl ⟨_, rfl, gq hb49 rfl⟩⟩ ?_
            refine lk (dt := some 125) R6_18_N rfl rfl rfl (ov_pickT rfl rfl rfl rfl rfl hb49 rfl) ?_
            refine lk (dt := some 2) R6_18_N rfl rfl rfl (opv_assign rfl rfl rfl) ?_
            refine aops_nil ?_
            exact ago_retE E6_59 (r := true) (ares_1 rfl (oneT rfl)) rfl H
          · replace H := cnd_f H hb49
            refine lk (dt := some 115) R6_18_N rfl rfl ⟨_, rfl, .inl ⟨_, rfl, gq hb49 rfl⟩⟩ (opv_move rfl rfl h11) ?_
            refine lk (dt := some 116) R6_18_N rfl rfl ⟨_, rfl, .inl ⟨_, rfl, gq hb49 rfl⟩⟩ (opv_not rfl rfl rfl) ?_
            refine lk (dt := some 117) R6_18_N rfl rfl ⟨_, rfl, .inl ⟨_, rfl, gq hb49 rfl⟩⟩ (opv_move rfl rfl rfl) ?_
            rcases Bool.eq_false_or_eq_true (!ok_11) with hb50 | hb50
            · replace H := cnd_t H hb50
              refine lk (dt := some 118) R6_18_N rfl rfl ⟨_, rfl, .inl ⟨_, rfl, gq hb50 rfl⟩⟩ (opv_move rfl rfl h10) ?_
              refine lk (dt := some 119) R6_18_N rfl rfl ⟨_, rfl, .inl ⟨_, rfl, gq hb50 rfl⟩⟩ (opv_eqI rfl rfl rfl rfl rfl) ?_
              refine lk (dt := some 120) R6_18_N rfl rfl ⟨_, rfl, .inl ⟨_, rfl, gq hb49 rfl⟩⟩ (ov_pickT rfl rfl rfl rfl rfl hb50 rfl) ?_
              refine lk (dt := some 121) R6_18_N rfl rfl ⟨_, rfl, .inl ⟨_, rfl, gq hb49 rfl⟩⟩ (opv_move rfl rfl rfl) ?_
              rcases Bool.eq_false_or_eq_true (decide (e_10 = 4)) with hb51 | hb51
              · replace H := cnd_t H hb51
                refine lk (dt := some 122) R6_18_N rfl rfl ⟨_, rfl, .inl ⟨_, rfl, gq hb51 rfl⟩⟩ (opv_move rfl rfl h9) ?_
                refine lk (dt := some 123) R6_18_N rfl rfl ⟨_, rfl, .inl ⟨_, rfl, gq hb51 rfl⟩⟩ (opv_eqI rfl rfl rfl rfl rfl) ?_
                refine lk (dt := some 124) R6_18_N rfl rfl ⟨_, rfl, .inl ⟨_, rfl, gq hb49 rfl⟩⟩ (ov_pickT rfl rfl rfl rfl rfl hb51 rfl) ?_
                refine lk (dt := some 125) R6_18_N rfl rfl rfl (ov_pickF rfl rfl rfl rfl rfl hb49 rfl) ?_
                refine lk (dt := some 2) R6_18_N rfl rfl rfl (opv_assign rfl rfl rfl) ?_
                refine aops_nil ?_
                exact ago_retE E6_59 (r := (decide (at_9 = 1))) (ares_1 rfl (oneT rfl)) rfl H
              · replace H := cnd_f H hb51
                refine lk_skip (dt := some 122) R6_18_N rfl rfl ⟨_, rfl, .inl ⟨_, rfl, gq hb51 rfl⟩⟩ ?_
                refine lk_skip (dt := some 123) R6_18_N rfl rfl ⟨_, rfl, .inl ⟨_, rfl, gq hb51 rfl⟩⟩ ?_
                refine lk (dt := some 124) R6_18_N rfl rfl ⟨_, rfl, .inl ⟨_, rfl, gq hb49 rfl⟩⟩ (ov_pickF rfl rfl rfl rfl rfl hb51 rfl) ?_
                refine lk (dt := some 125) R6_18_N rfl rfl rfl (ov_pickF rfl rfl rfl rfl rfl hb49 rfl) ?_
                refine lk (dt := some 2) R6_18_N rfl rfl rfl (opv_assign rfl rfl rfl) ?_
                refine aops_nil ?_
                exact ago_retE E6_59 (r := false) (ares_1 rfl (oneT rfl)) rfl H
            · replace H := cnd_f H hb50
              refine lk_skip (dt := some 118) R6_18_N rfl rfl ⟨_, rfl, .inl ⟨_, rfl, gq hb50 rfl⟩⟩ ?_
              refine lk_skip (dt := some 119) R6_18_N rfl rfl ⟨_, rfl, .inl ⟨_, rfl, gq hb50 rfl⟩⟩ ?_
              refine lk (dt := some 120) R6_18_N rfl rfl ⟨_, rfl, .inl ⟨_, rfl, gq hb49 rfl⟩⟩ (ov_pickF rfl rfl rfl rfl rfl hb50 rfl) ?_
              refine lk (dt := some 121) R6_18_N rfl rfl ⟨_, rfl, .inl ⟨_, rfl, gq hb49 rfl⟩⟩ (opv_move rfl rfl rfl) ?_
              refine lk_skip (dt := some 122) R6_18_N rfl rfl ⟨_, rfl, .inl ⟨_, rfl, gq rfl rfl⟩⟩ ?_
              refine lk_skip (dt := some 123) R6_18_N rfl rfl ⟨_, rfl, .inl ⟨_, rfl, gq rfl rfl⟩⟩ ?_
              refine lk (dt := some 124) R6_18_N rfl rfl ⟨_, rfl, .inl ⟨_, rfl, gq hb49 rfl⟩⟩ (ov_pickF rfl rfl rfl rfl rfl rfl rfl) ?_
              refine lk (dt := some 125) R6_18_N rfl rfl rfl (ov_pickF rfl rfl rfl rfl rfl hb49 rfl) ?_
              refine lk (dt := some 2) R6_18_N rfl rfl rfl (opv_assign rfl rfl rfl) ?_
              refine aops_nil ?_
              exact ago_retE E6_59 (r := false) (ares_1 rfl (oneT rfl)) rfl H
        · replace H := cnd_f H hb29
          refine lk_skip (dt := some 107) R6_18_N rfl rfl ⟨_, rfl, .inl ⟨_, rfl, gq hb29 rfl⟩⟩ ?_
          refine lk_skip (dt := some 108) R6_18_N rfl rfl ⟨_, rfl, .inl ⟨_, rfl, gq hb29 rfl⟩⟩ ?_
          refine lk_skip (dt := some 109) R6_18_N rfl rfl ⟨_, rfl, .inl ⟨_, rfl, gq hb29 rfl⟩⟩ ?_
          refine lk_skip (dt := some 110) R6_18_N rfl rfl ⟨_, rfl, .inl ⟨_, rfl, gq hb29 rfl⟩⟩ ?_
          refine lk_skip (dt := some 111) R6_18_N rfl rfl ⟨_, rfl, .inl ⟨_, rfl, gq hb29 rfl⟩⟩ ?_
          refine lk_skip (dt := some 112) R6_18_N rfl rfl ⟨_, rfl, .inl ⟨_, rfl, gq hb29 rfl⟩⟩ ?_
          refine lk (dt := some 113) R6_18_N rfl rfl rfl (ov_pickF rfl rfl rfl rfl rfl hb29 rfl) ?_
          refine lk (dt := some 114) R6_18_N rfl rfl rfl (opv_move rfl rfl rfl) ?_
          refine lk (dt := some 115) R6_18_N rfl rfl ⟨_, rfl, .inl ⟨_, rfl, gq rfl rfl⟩⟩ (opv_move rfl rfl h11) ?_
          refine lk (dt := some 116) R6_18_N rfl rfl ⟨_, rfl, .inl ⟨_, rfl, gq rfl rfl⟩⟩ (opv_not rfl rfl rfl) ?_
          refine lk (dt := some 117) R6_18_N rfl rfl ⟨_, rfl, .inl ⟨_, rfl, gq rfl rfl⟩⟩ (opv_move rfl rfl rfl) ?_
          rcases Bool.eq_false_or_eq_true (!ok_11) with hb52 | hb52
          · replace H := cnd_t H hb52
            refine lk (dt := some 118) R6_18_N rfl rfl ⟨_, rfl, .inl ⟨_, rfl, gq hb52 rfl⟩⟩ (opv_move rfl rfl h10) ?_
            refine lk (dt := some 119) R6_18_N rfl rfl ⟨_, rfl, .inl ⟨_, rfl, gq hb52 rfl⟩⟩ (opv_eqI rfl rfl rfl rfl rfl) ?_
            refine lk (dt := some 120) R6_18_N rfl rfl ⟨_, rfl, .inl ⟨_, rfl, gq rfl rfl⟩⟩ (ov_pickT rfl rfl rfl rfl rfl hb52 rfl) ?_
            refine lk (dt := some 121) R6_18_N rfl rfl ⟨_, rfl, .inl ⟨_, rfl, gq rfl rfl⟩⟩ (opv_move rfl rfl rfl) ?_
            rcases Bool.eq_false_or_eq_true (decide (e_10 = 4)) with hb53 | hb53
            · replace H := cnd_t H hb53
              refine lk (dt := some 122) R6_18_N rfl rfl ⟨_, rfl, .inl ⟨_, rfl, gq hb53 rfl⟩⟩ (opv_move rfl rfl h9) ?_
              refine lk (dt := some 123) R6_18_N rfl rfl ⟨_, rfl, .inl ⟨_, rfl, gq hb53 rfl⟩⟩ (opv_eqI rfl rfl rfl rfl rfl) ?_
              refine lk (dt := some 124) R6_18_N rfl rfl ⟨_, rfl, .inl ⟨_, rfl, gq rfl rfl⟩⟩ (ov_pickT rfl rfl rfl rfl rfl hb53 rfl) ?_
              refine lk (dt := some 125) R6_18_N rfl rfl rfl (ov_pickF rfl rfl rfl rfl rfl rfl rfl) ?_
              refine lk (dt := some 2) R6_18_N rfl rfl rfl (opv_assign rfl rfl rfl) ?_
              refine aops_nil ?_
              exact ago_retE E6_59 (r := (decide (at_9 = 1))) (ares_1 rfl (oneT rfl)) rfl H
            · replace H := cnd_f H hb53
              refine lk_skip (dt := some 122) R6_18_N rfl rfl ⟨_, rfl, .inl ⟨_, rfl, gq hb53 rfl⟩⟩ ?_
              refine lk_skip (dt := some 123) R6_18_N rfl rfl ⟨_, rfl, .inl ⟨_, rfl, gq hb53 rfl⟩⟩ ?_
              refine lk (dt := some 124) R6_18_N rfl rfl ⟨_, rfl, .inl ⟨_, rfl, gq rfl rfl⟩⟩ (ov_pickF rfl rfl rfl rfl rfl hb53 rfl) ?_
              refine lk (dt := some 125) R6_18_N rfl rfl rfl (ov_pickF rfl rfl rfl rfl rfl rfl rfl) ?_
              refine lk (dt := some 2) R6_18_N rfl rfl rfl (opv_assign rfl rfl rfl) ?_
              refine aops_nil ?_
              exact ago_retE E6_59 (r := false) (ares_1 rfl (oneT rfl)) rfl H
          · replace H := cnd_f H hb52
            refine lk_skip (dt := some 118) R6_18_N rfl rfl ⟨_, rfl, .inl ⟨_, rfl, gq hb52 rfl⟩⟩ ?_
            refine lk_skip (dt := some 119) R6_18_N rfl rfl ⟨_, rfl, .inl ⟨_, rfl, gq hb52 rfl⟩⟩ ?_
            refine lk (dt := some 120) R6_18_N rfl rfl ⟨_, rfl, .inl ⟨_, rfl, gq rfl rfl⟩⟩ (ov_pickF rfl rfl rfl rfl rfl hb52 rfl) ?_
            refine lk (dt := some 121) R6_18_N rfl rfl ⟨_, rfl, .inl ⟨_, rfl, gq rfl rfl⟩⟩ (opv_move rfl rfl rfl) ?_
            refine lk_skip (dt := some 122) R6_18_N rfl rfl ⟨_, rfl, .inl ⟨_, rfl, gq rfl rfl⟩⟩ ?_
            refine lk_skip (dt := some 123) R6_18_N rfl rfl ⟨_, rfl, .inl ⟨_, rfl, gq rfl rfl⟩⟩ ?_
            refine lk (dt := some 124) R6_18_N rfl rfl ⟨_, rfl, .inl ⟨_, rfl, gq rfl rfl⟩⟩ (ov_pickF rfl rfl rfl rfl rfl rfl rfl) ?_
            refine lk (dt := some 125) R6_18_N rfl rfl rfl (ov_pickF rfl rfl rfl rfl rfl rfl rfl) ?_
            refine lk (dt := some 2) R6_18_N rfl rfl rfl (opv_assign rfl rfl rfl) ?_
            refine aops_nil ?_
            exact ago_retE E6_59 (r := false) (ares_1 rfl (oneT rfl)) rfl H
      · replace H := cnd_f H hb9
        refine lk_skip (dt := some 100) R6_18_N rfl rfl ⟨_, rfl, .inl ⟨_, rfl, gq hb9 rfl⟩⟩ ?_
        refine lk_skip (dt := some 101) R6_18_N rfl rfl ⟨_, rfl, .inl ⟨_, rfl, gq hb9 rfl⟩⟩ ?_
        refine lk_skip (dt := some 102) R6_18_N rfl rfl ⟨_, rfl, .inl ⟨_, rfl, gq hb9 rfl⟩⟩ ?_
        refine lk_skip (dt := some 103) R6_18_N rfl rfl ⟨_, rfl, .inl ⟨_, rfl, gq hb9 rfl⟩⟩ ?_
        refine lk_skip (dt := some 104) R6_18_N rfl rfl ⟨_, rfl, .inl ⟨_, rfl, gq hb9 rfl⟩⟩ ?_
        refine lk (dt := some 105) R6_18_N rfl rfl rfl (ov_pickF rfl rfl rfl rfl rfl hb9 rfl) ?_
        refine lk (dt := some 106) R6_18_N rfl rfl rfl (opv_move rfl rfl rfl) ?_
        refine lk_skip (dt := some 107) R6_18_N rfl rfl ⟨_, rfl, .inl ⟨_, rfl, gq rfl rfl⟩⟩ ?_
        refine lk_skip (dt := some 108) R6_18_N rfl rfl ⟨_, rfl, .inl ⟨_, rfl, gq rfl rfl⟩⟩ ?_
        refine lk_skip (dt := some 109) R6_18_N rfl rfl ⟨_, rfl, .inl ⟨_, rfl, gq rfl rfl⟩⟩ ?_
        refine lk_skip (dt := some 110) R6_18_N rfl rfl ⟨_, rfl, .inl ⟨_, rfl, gq rfl rfl⟩⟩ ?_
        refine lk_skip (dt := some 111) R6_18_N rfl rfl ⟨_, rfl, .inl ⟨_, rfl, gq rfl rfl⟩⟩ ?_
        refine lk_skip (dt := some 112) R6_18_N rfl rfl ⟨_, rfl, .inl ⟨_, rfl, gq rfl rfl⟩⟩ ?_
        refine lk (dt := some 113) R6_18_N rfl rfl rfl (ov_pickF rfl rfl rfl rfl rfl rfl rfl) ?_
        refine lk (dt := some 114) R6_18_N rfl rfl rfl (opv_move rfl rfl rfl) ?_
        refine lk (dt := some 115) R6_18_N rfl rfl ⟨_, rfl, .inl ⟨_, rfl, gq rfl rfl⟩⟩ (opv_move rfl rfl h11) ?_
        refine lk (dt := some 116) R6_18_N rfl rfl ⟨_, rfl, .inl ⟨_, rfl, gq rfl rfl⟩⟩ (opv_not rfl rfl rfl) ?_
        refine lk (dt := some 117) R6_18_N rfl rfl ⟨_, rfl, .inl ⟨_, rfl, gq rfl rfl⟩⟩ (opv_move rfl rfl rfl) ?_
        rcases Bool.eq_false_or_eq_true (!ok_11) with hb54 | hb54
        · replace H := cnd_t H hb54
          refine lk (dt := some 118) R6_18_N rfl rfl ⟨_, rfl, .inl ⟨_, rfl, gq hb54 rfl⟩⟩ (opv_move rfl rfl h10) ?_
          refine lk (dt := some 119) R6_18_N rfl rfl ⟨_, rfl, .inl ⟨_, rfl, gq hb54 rfl⟩⟩ (opv_eqI rfl rfl rfl rfl rfl) ?_
          refine lk (dt := some 120) R6_18_N rfl rfl ⟨_, rfl, .inl ⟨_, rfl, gq rfl rfl⟩⟩ (ov_pickT rfl rfl rfl rfl rfl hb54 rfl) ?_
          refine lk (dt := some 121) R6_18_N rfl rfl ⟨_, rfl, .inl ⟨_, rfl, gq rfl rfl⟩⟩ (opv_move rfl rfl rfl) ?_
          rcases Bool.eq_false_or_eq_true (decide (e_10 = 4)) with hb55 | hb55
          · replace H := cnd_t H hb55
            refine lk (dt := some 122) R6_18_N rfl rfl ⟨_, rfl, .inl ⟨_, rfl, gq hb55 rfl⟩⟩ (opv_move rfl rfl h9) ?_
            refine lk (dt := some 123) R6_18_N rfl rfl ⟨_, rfl, .inl ⟨_, rfl, gq hb55 rfl⟩⟩ (opv_eqI rfl rfl rfl rfl rfl) ?_
            refine lk (dt := some 124) R6_18_N rfl rfl ⟨_, rfl, .inl ⟨_, rfl, gq rfl rfl⟩⟩ (ov_pickT rfl rfl rfl rfl rfl hb55 rfl) ?_
            refine lk (dt := some 125) R6_18_N rfl rfl rfl (ov_pickF rfl rfl rfl rfl rfl rfl rfl) ?_
            refine lk (dt := some 2) R6_18_N rfl rfl rfl (opv_assign rfl rfl rfl) ?_
            refine aops_nil ?_
            exact ago_retE E6_59 (r := (decide (at_9 = 1))) (ares_1 rfl (oneT rfl)) rfl H
          · replace H := cnd_f H hb55
            refine lk_skip (dt := some 122) R6_18_N rfl rfl ⟨_, rfl, .inl ⟨_, rfl, gq hb55 rfl⟩⟩ ?_
            refine lk_skip (dt := some 123) R6_18_N rfl rfl ⟨_, rfl, .inl ⟨_, rfl, gq hb55 rfl⟩⟩ ?_
            refine lk (dt := some 124) R6_18_N rfl rfl ⟨_, rfl, .inl ⟨_, rfl, gq rfl rfl⟩⟩ (ov_pickF rfl rfl rfl rfl rfl hb55 rfl) ?_
            refine lk (dt := some 125) R6_18_N rfl rfl rfl (ov_pickF rfl rfl rfl rfl rfl rfl rfl) ?_
            refine lk (dt := some 2) R6_18_N rfl rfl rfl (opv_assign rfl rfl rfl) ?_
            refine aops_nil ?_
            exact ago_retE E6_59 (r := false) (ares_1 rfl (oneT rfl)) rfl H
        · replace H := cnd_f H hb54
          refine lk_skip (dt := some 118) R6_18_N rfl rfl ⟨_, rfl, .inl ⟨_, rfl, gq hb54 rfl⟩⟩ ?_
          refine lk_skip (dt := some 119) R6_18_N rfl rfl ⟨_, rfl, .inl ⟨_, rfl, gq hb54 rfl⟩⟩ ?_
          refine lk (dt := some 120) R6_18_N rfl rfl ⟨_, rfl, .inl ⟨_, rfl, gq rfl rfl⟩⟩ (ov_pickF rfl rfl rfl rfl rfl hb54 rfl) ?_
          refine lk (dt := some 121) R6_18_N rfl rfl ⟨_, rfl, .inl ⟨_, rfl, gq rfl rfl⟩⟩ (opv_move rfl rfl rfl) ?_
          refine lk_skip (dt := some 122) R6_18_N rfl rfl ⟨_, rfl, .inl ⟨_, rfl, gq rfl rfl⟩⟩ ?_
          refine lk_skip (dt := some 123) R6_18_N rfl rfl ⟨_, rfl, .inl ⟨_, rfl, gq rfl rfl⟩⟩ ?_
          refine lk (dt := some 124) R6_18_N rfl rfl ⟨_, rfl, .inl ⟨_, rfl, gq rfl rfl⟩⟩ (ov_pickF rfl rfl rfl rfl rfl rfl rfl) ?_
          refine lk (dt := some 125) R6_18_N rfl rfl rfl (ov_pickF rfl rfl rfl rfl rfl rfl rfl) ?_
          refine lk (dt := some 2) R6_18_N rfl rfl rfl (opv_assign rfl rfl rfl) ?_
          refine aops_nil ?_
          exact ago_retE E6_59 (r := false) (ares_1 rfl (oneT rfl)) rfl H
    · replace H := cnd_f H hb2
      refine lk_skip (dt := some 95) R6_18_N rfl rfl ⟨_, rfl, .inl ⟨_, rfl, gq hb2 rfl⟩⟩ ?_
      refine lk_skip (dt := some 96) R6_18_N rfl rfl ⟨_, rfl, .inl ⟨_, rfl, gq hb2 rfl⟩⟩ ?_
      refine lk_skip (dt := some 97) R6_18_N rfl rfl ⟨_, rfl, .inl ⟨_, rfl, gq hb2 rfl⟩⟩ ?_
      refine lk (dt := some 98) R6_18_N rfl rfl rfl (ov_pickF rfl rfl rfl rfl rfl hb2 rfl) ?_
      refine lk (dt := some 99) R6_18_N rfl rfl rfl (opv_move rfl rfl rfl) ?_
      refine lk_skip (dt := some 100) R6_18_N rfl rfl ⟨_, rfl, .inl ⟨_, rfl, gq rfl rfl⟩⟩ ?_
      refine lk_skip (dt := some 101) R6_18_N rfl rfl ⟨_, rfl, .inl ⟨_, rfl, gq rfl rfl⟩⟩ ?_
      refine lk_skip (dt := some 102) R6_18_N rfl rfl ⟨_, rfl, .inl ⟨_, rfl, gq rfl rfl⟩⟩ ?_
      refine lk_skip (dt := some 103) R6_18_N rfl rfl ⟨_, rfl, .inl ⟨_, rfl, gq rfl rfl⟩⟩ ?_
      refine lk_skip (dt := some 104) R6_18_N rfl rfl ⟨_, rfl, .inl ⟨_, rfl, gq rfl rfl⟩⟩ ?_
      refine lk (dt := some 105) R6_18_N rfl rfl rfl (ov_pickF rfl rfl rfl rfl rfl rfl rfl) ?_
      refine lk (dt := some 106) R6_18_N rfl rfl rfl (opv_move rfl rfl rfl) ?_
      refine lk_skip (dt := some 107) R6_18_N rfl rfl ⟨_, rfl, .inl ⟨_, rfl, gq rfl rfl⟩⟩ ?_
      refine lk_skip (dt := some 108) R6_18_N rfl rfl ⟨_, rfl, .inl ⟨_, rfl, gq rfl rfl⟩⟩ ?_
      refine lk_skip (dt := some 109) R6_18_N rfl rfl ⟨_, rfl, .inl ⟨_, rfl, gq rfl rfl⟩⟩ ?_
      refine lk_skip (dt := some 110) R6_18_N rfl rfl ⟨_, rfl, .inl ⟨_, rfl, gq rfl rfl⟩⟩ ?_
      refine lk_skip (dt := some 111) R6_18_N rfl rfl ⟨_, rfl, .inl ⟨_, rfl, gq rfl rfl⟩⟩ ?_
      refine lk_skip (dt := some 112) R6_18_N rfl rfl ⟨_, rfl, .inl ⟨_, rfl, gq rfl rfl⟩⟩ ?_
      refine lk (dt := some 113) R6_18_N rfl rfl rfl (ov_pickF rfl rfl rfl rfl rfl rfl rfl) ?_
      refine lk (dt := some 114) R6_18_N rfl rfl rfl (opv_move rfl rfl rfl) ?_
      refine lk (dt := some 115) R6_18_N rfl rfl ⟨_, rfl, .inl ⟨_, rfl, gq rfl rfl⟩⟩ (opv_move rfl rfl h11) ?_
      refine lk (dt := some 116) R6_18_N rfl rfl ⟨_, rfl, .inl ⟨_, rfl, gq rfl rfl⟩⟩ (opv_not rfl rfl rfl) ?_
      refine lk (dt := some 117) R6_18_N rfl rfl ⟨_, rfl, .inl ⟨_, rfl, gq rfl rfl⟩⟩ (opv_move rfl rfl rfl) ?_
      rcases Bool.eq_false_or_eq_true (!ok_11) with hb56 | hb56
      · replace H := cnd_t H hb56
        refine lk (dt := some 118) R6_18_N rfl rfl ⟨_, rfl, .inl ⟨_, rfl, gq hb56 rfl⟩⟩ (opv_move rfl rfl h10) ?_
        refine lk (dt := some 119) R6_18_N rfl rfl ⟨_, rfl, .inl ⟨_, rfl, gq hb56 rfl⟩⟩ (opv_eqI rfl rfl rfl rfl rfl) ?_
        refine lk (dt := some 120) R6_18_N rfl rfl ⟨_, rfl, .inl ⟨_, rfl, gq rfl rfl⟩⟩ (ov_pickT rfl rfl rfl rfl rfl hb56 rfl) ?_
        refine lk (dt := some 121) R6_18_N rfl rfl ⟨_, rfl, .inl ⟨_, rfl, gq rfl rfl⟩⟩ (opv_move rfl rfl rfl) ?_
        rcases Bool.eq_false_or_eq_true (decide (e_10 = 4)) with hb57 | hb57
        · replace H := cnd_t H hb57
          refine lk (dt := some 122) R6_18_N rfl rfl ⟨_, rfl, .inl ⟨_, rfl, gq hb57 rfl⟩⟩ (opv_move rfl rfl h9) ?_
          refine lk (dt := some 123) R6_18_N rfl rfl ⟨_, rfl, .inl ⟨_, rfl, gq hb57 rfl⟩⟩ (opv_eqI rfl rfl rfl rfl rfl) ?_
          refine lk (dt := some 124) R6_18_N rfl rfl ⟨_, rfl, .inl ⟨_, rfl, gq rfl rfl⟩⟩ (ov_pickT rfl rfl rfl rfl rfl hb57 rfl) ?_
          refine lk (dt := some 125) R6_18_N rfl rfl rfl (ov_pickF rfl rfl rfl rfl rfl rfl rfl) ?_
          refine lk (dt := some 2) R6_18_N rfl rfl rfl (opv_assign rfl rfl rfl) ?_
          refine aops_nil ?_
          exact ago_retE E6_59 (r := (decide (at_9 = 1))) (ares_1 rfl (oneT rfl)) rfl H
        · replace H := cnd_f H hb57
          refine lk_skip (dt := some 122) R6_18_N rfl rfl ⟨_, rfl, .inl ⟨_, rfl, gq hb57 rfl⟩⟩ ?_
          refine lk_skip (dt := some 123) R6_18_N rfl rfl ⟨_, rfl, .inl ⟨_, rfl, gq hb57 rfl⟩⟩ ?_
          refine lk (dt := some 124) R6_18_N rfl rfl ⟨_, rfl, .inl ⟨_, rfl, gq rfl rfl⟩⟩ (ov_pickF rfl rfl rfl rfl rfl hb57 rfl) ?_
          refine lk (dt := some 125) R6_18_N rfl rfl rfl (ov_pickF rfl rfl rfl rfl rfl rfl rfl) ?_
          refine lk (dt := some 2) R6_18_N rfl rfl rfl (opv_assign rfl rfl rfl) ?_
          refine aops_nil ?_
          exact ago_retE E6_59 (r := false) (ares_1 rfl (oneT rfl)) rfl H
      · replace H := cnd_f H hb56
        refine lk_skip (dt := some 118) R6_18_N rfl rfl ⟨_, rfl, .inl ⟨_, rfl, gq hb56 rfl⟩⟩ ?_
        refine lk_skip (dt := some 119) R6_18_N rfl rfl ⟨_, rfl, .inl ⟨_, rfl, gq hb56 rfl⟩⟩ ?_
        refine lk (dt := some 120) R6_18_N rfl rfl ⟨_, rfl, .inl ⟨_, rfl, gq rfl rfl⟩⟩ (ov_pickF rfl rfl rfl rfl rfl hb56 rfl) ?_
        refine lk (dt := some 121) R6_18_N rfl rfl ⟨_, rfl, .inl ⟨_, rfl, gq rfl rfl⟩⟩ (opv_move rfl rfl rfl) ?_
        refine lk_skip (dt := some 122) R6_18_N rfl rfl ⟨_, rfl, .inl ⟨_, rfl, gq rfl rfl⟩⟩ ?_
        refine lk_skip (dt := some 123) R6_18_N rfl rfl ⟨_, rfl, .inl ⟨_, rfl, gq rfl rfl⟩⟩ ?_
        refine lk (dt := some 124) R6_18_N rfl rfl ⟨_, rfl, .inl ⟨_, rfl, gq rfl rfl⟩⟩ (ov_pickF rfl rfl rfl rfl rfl rfl rfl) ?_
        refine lk (dt := some 125) R6_18_N rfl rfl rfl (ov_pickF rfl rfl rfl rfl rfl rfl rfl) ?_
        refine lk (dt := some 2) R6_18_N rfl rfl rfl (opv_assign rfl rfl rfl) ?_
        refine aops_nil ?_
        exact ago_retE E6_59 (r := false) (ares_1 rfl (oneT rfl)) rfl H
  · replace H := cnd_f H hb1
    refine lk_skip (dt := some 91) R6_18_N rfl rfl ⟨_, rfl, .inl ⟨_, rfl, gq hb1 rfl⟩⟩ ?_
    refine lk_skip (dt := some 92) R6_18_N rfl rfl ⟨_, rfl, .inl ⟨_, rfl, gq hb1 rfl⟩⟩ ?_
    refine lk (dt := some 93) R6_18_N rfl rfl rfl (ov_pickF rfl rfl rfl rfl rfl hb1 rfl) ?_
    refine lk (dt := some 94) R6_18_N rfl rfl rfl (opv_move rfl rfl rfl) ?_
    refine lk_skip (dt := some 95) R6_18_N rfl rfl ⟨_, rfl, .inl ⟨_, rfl, gq rfl rfl⟩⟩ ?_
    refine lk_skip (dt := some 96) R6_18_N rfl rfl ⟨_, rfl, .inl ⟨_, rfl, gq rfl rfl⟩⟩ ?_
    refine lk_skip (dt := some 97) R6_18_N rfl rfl ⟨_, rfl, .inl ⟨_, rfl, gq rfl rfl⟩⟩ ?_
    refine lk (dt := some 98) R6_18_N rfl rfl rfl (ov_pickF rfl rfl rfl rfl rfl rfl rfl) ?_
    refine lk (dt := some 99) R6_18_N rfl rfl rfl (opv_move rfl rfl rfl) ?_
    refine lk_skip (dt := some 100) R6_18_N rfl rfl ⟨_, rfl, .inl ⟨_, rfl, gq rfl rfl⟩⟩ ?_
    refine lk_skip (dt := some 101) R6_18_N rfl rfl ⟨_, rfl, .inl ⟨_, rfl, gq rfl rfl⟩⟩ ?_
    refine lk_skip (dt := some 102) R6_18_N rfl rfl ⟨_, rfl, .inl ⟨_, rfl, gq rfl rfl⟩⟩ ?_
    refine lk_skip (dt := some 103) R6_18_N rfl rfl ⟨_, rfl, .inl ⟨_, rfl, gq rfl rfl⟩⟩ ?_
    refine lk_skip (dt := some 104) R6_18_N rfl rfl ⟨_, rfl, .inl ⟨_, rfl, gq rfl rfl⟩⟩ ?_
    refine lk (dt := some 105) R6_18_N rfl rfl rfl (ov_pickF rfl rfl rfl rfl rfl rfl rfl) ?_
    refine lk (dt := some 106) R6_18_N rfl rfl rfl (opv_move rfl rfl rfl) ?_
    refine lk_skip (dt := some 107) R6_18_N rfl rfl ⟨_, rfl, .inl ⟨_, rfl, gq rfl rfl⟩⟩ ?_
    refine lk_skip (dt := some 108) R6_18_N rfl rfl ⟨_, rfl, .inl ⟨_, rfl, gq rfl rfl⟩⟩ ?_
    refine lk_skip (dt := some 109) R6_18_N rfl rfl ⟨_, rfl, .inl ⟨_, rfl, gq rfl rfl⟩⟩ ?_
    refine lk_skip (dt := some 110) R6_18_N rfl rfl ⟨_, rfl, .inl ⟨_, rfl, gq rfl rfl⟩⟩ ?_
    refine lk_skip (dt := some 111) R6_18_N rfl rfl ⟨_, rfl, .inl ⟨_, rfl, gq rfl rfl⟩⟩ ?_
    refine lk_skip (dt := some 112) R6_18_N rfl rfl ⟨_, rfl, .inl ⟨_, rfl, gq rfl rfl⟩⟩ ?_
    refine lk (dt := some 113) R6_18_N rfl rfl rfl (ov_pickF rfl rfl rfl rfl rfl rfl rfl) ?_
    refine lk (dt := some 114) R6_18_N rfl rfl rfl (opv_move rfl rfl rfl) ?_
    refine lk (dt := some 115) R6_18_N rfl rfl ⟨_, rfl, .inl ⟨_, rfl, gq rfl rfl⟩⟩ (opv_move rfl rfl h11) ?_
    refine lk (dt := some 116) R6_18_N rfl rfl ⟨_, rfl, .inl ⟨_, rfl, gq rfl rfl⟩⟩ (opv_not rfl rfl rfl) ?_
    refine lk (dt := some 117) R6_18_N rfl rfl ⟨_, rfl, .inl ⟨_, rfl, gq rfl rfl⟩⟩ (opv_move rfl rfl rfl) ?_
    rcases Bool.eq_false_or_eq_true (!ok_11) with hb58 | hb58
    · replace H := cnd_t H hb58
      refine lk (dt := some 118) R6_18_N rfl rfl ⟨_, rfl, .inl ⟨_, rfl, gq hb58 rfl⟩⟩ (opv_move rfl rfl h10) ?_
      refine lk (dt := some 119) R6_18_N rfl rfl ⟨_, rfl, .inl ⟨_, rfl, gq hb58 rfl⟩⟩ (opv_eqI rfl rfl rfl rfl rfl) ?_
      refine lk (dt := some 120) R6_18_N rfl rfl ⟨_, rfl, .inl ⟨_, rfl, gq rfl rfl⟩⟩ (ov_pickT rfl rfl rfl rfl rfl hb58 rfl) ?_
      refine lk (dt := some 121) R6_18_N rfl rfl ⟨_, rfl, .inl ⟨_, rfl, gq rfl rfl⟩⟩ (opv_move rfl rfl rfl) ?_
      rcases Bool.eq_false_or_eq_true (decide (e_10 = 4)) with hb59 | hb59
      · replace H := cnd_t H hb59
        refine lk (dt := some 122) R6_18_N rfl rfl ⟨_, rfl, .inl ⟨_, rfl, gq hb59 rfl⟩⟩ (opv_move rfl rfl h9) ?_
        refine lk (dt := some 123) R6_18_N rfl rfl ⟨_, rfl, .inl ⟨_, rfl, gq hb59 rfl⟩⟩ (opv_eqI rfl rfl rfl rfl rfl) ?_
        refine lk (dt := some 124) R6_18_N rfl rfl ⟨_, rfl, .inl ⟨_, rfl, gq rfl rfl⟩⟩ (ov_pickT rfl rfl rfl rfl rfl hb59 rfl) ?_
        refine lk (dt := some 125) R6_18_N rfl rfl rfl (ov_pickF rfl rfl rfl rfl rfl rfl rfl) ?_
        refine lk (dt := some 2) R6_18_N rfl rfl rfl (opv_assign rfl rfl rfl) ?_
        refine aops_nil ?_
        exact ago_retE E6_59 (r := (decide (at_9 = 1))) (ares_1 rfl (oneT rfl)) rfl H
      · replace H := cnd_f H hb59
        refine lk_skip (dt := some 122) R6_18_N rfl rfl ⟨_, rfl, .inl ⟨_, rfl, gq hb59 rfl⟩⟩ ?_
        refine lk_skip (dt := some 123) R6_18_N rfl rfl ⟨_, rfl, .inl ⟨_, rfl, gq hb59 rfl⟩⟩ ?_
        refine lk (dt := some 124) R6_18_N rfl rfl ⟨_, rfl, .inl ⟨_, rfl, gq rfl rfl⟩⟩ (ov_pickF rfl rfl rfl rfl rfl hb59 rfl) ?_
        refine lk (dt := some 125) R6_18_N rfl rfl rfl (ov_pickF rfl rfl rfl rfl rfl rfl rfl) ?_
        refine lk (dt := some 2) R6_18_N rfl rfl rfl (opv_assign rfl rfl rfl) ?_
        refine aops_nil ?_
        exact ago_retE E6_59 (r := false) (ares_1 rfl (oneT rfl)) rfl H
    · replace H := cnd_f H hb58
      refine lk_skip (dt := some 118) R6_18_N rfl rfl ⟨_, rfl, .inl ⟨_, rfl, gq hb58 rfl⟩⟩ ?_
      refine lk_skip (dt := some 119) R6_18_N rfl rfl ⟨_, rfl, .inl ⟨_, rfl, gq hb58 rfl⟩⟩ ?_
      refine lk (dt := some 120) R6_18_N rfl rfl ⟨_, rfl, .inl ⟨_, rfl, gq rfl rfl⟩⟩ (ov_pickF rfl rfl rfl rfl rfl hb58 rfl) ?_
      refine lk (dt := some 121) R6_18_N rfl rfl ⟨_, rfl, .inl ⟨_, rfl, gq rfl rfl⟩⟩ (opv_move rfl rfl rfl) ?_
      refine lk_skip (dt := some 122) R6_18_N rfl rfl ⟨_, rfl, .inl ⟨_, rfl, gq rfl rfl⟩⟩ ?_
      refine lk_skip (dt := some 123) R6_18_N rfl rfl ⟨_, rfl, .inl ⟨_, rfl, gq rfl rfl⟩⟩ ?_
      refine lk (dt := some 124) R6_18_N rfl rfl ⟨_, rfl, .inl ⟨_, rfl, gq rfl rfl⟩⟩ (ov_pickF rfl rfl rfl rfl rfl rfl rfl) ?_
      refine lk (dt := some 125) R6_18_N rfl rfl rfl (ov_pickF rfl rfl rfl rfl rfl rfl rfl) ?_
      refine lk (dt := some 2) R6_18_N rfl rfl rfl (opv_assign rfl rfl rfl) ?_
      refine aops_nil ?_
      exact ago_retE E6_59 (r := false) (ares_1 rfl (oneT rfl)) rfl H
set_option maxHeartbeats 4000000 in
set_option maxRecDepth 100000 in
theorem S6_3_ok (Q : Bool → AW → Prop) (E : List PanicEntry → AW → Prop)  (ρ : Env) (s_4 : ByteArray) (l_8 : Value) (e_10 : Int) (want_12 : Int) (aw : AW) (h4 : ρ 4 = .string s_4) (h8 : ρ 8 = l_8) (h10 : ρ 10 = .int .i64 e_10) (h12 : ρ 12 = .int .u8 want_12) (H : S6_3 Q E  s_4 l_8 e_10 want_12 aw) :
    AGo prog 159 [.code C6_69] ρ [] aw (RR prog f6 159 sh6 Q E) := by
  unfold S6_3 at H
  refine ago_seqE E6_69 ?_
  refine ago_regE E6_70 (l := [0, 1, 2, 3, 4, 5, 6, 7, 8, 9, 10, 11, 12, 13, 14, 15, 16, 17, 18, 19, 20, 21, 22, 23, 24, 25, 26, 27]) rfl ?_
  refine lk (dt := some 132) R6_22_N rfl rfl rfl (opv_move rfl rfl h10) ?_
  refine lk (dt := some 133) R6_22_N rfl rfl rfl (opv_eqI rfl rfl rfl rfl rfl) ?_
  refine lk (dt := some 134) R6_22_N rfl rfl rfl (opv_move rfl rfl rfl) ?_
  rcases Bool.eq_false_or_eq_true (decide (e_10 = 0)) with hb60 | hb60
  · replace H := cnd_t H hb60
    refine lk (dt := some 135) R6_22_N rfl rfl ⟨_, rfl, .inl ⟨_, rfl, gq hb60 rfl⟩⟩ (opv_move rfl rfl h8) ?_
    obtain ⟨q62, l63, c64, n61, hv65, hn66, H⟩ := H
    refine lk (dt := some 136) R6_22_N rfl rfl ⟨_, rfl, .inl ⟨_, rfl, gq hb60 rfl⟩⟩ (ov_len rfl rfl rfl underlying23 rfl hv65 hn66) ?_
    refine lk (dt := some 137) R6_22_N rfl rfl ⟨_, rfl, .inl ⟨_, rfl, gq hb60 rfl⟩⟩ (opv_eqI rfl rfl rfl rfl rfl) ?_
    refine lk (dt := some 138) R6_22_N rfl rfl rfl (ov_pickT rfl rfl rfl rfl rfl hb60 rfl) ?_
    refine lk (dt := some 139) R6_22_N rfl rfl rfl (opv_move rfl rfl rfl) ?_
    rcases Bool.eq_false_or_eq_true (decide (n61 = 2)) with hb67 | hb67
    · replace H := cnd_t H hb67
      refine lk (dt := some 140) R6_22_N rfl rfl ⟨_, rfl, .inl ⟨_, rfl, gq hb67 rfl⟩⟩ (opv_move rfl rfl h8) ?_
      obtain ⟨b69, i70, l71, c72, p68, hp73, h074, hj75, hv76, H⟩ := H
      refine lk (dt := some 141) R6_22_N rfl rfl ⟨_, rfl, .inl ⟨_, rfl, gq hb67 rfl⟩⟩ (ov_ixS rfl rfl rfl underlying23 sz33 rfl rfl hp73 h074 hj75 hv76) ?_
      obtain ⟨b78, i79, p77, hp80, hv81, H⟩ := H
      refine lk (dt := some 142) R6_22_N rfl rfl ⟨_, rfl, .inl ⟨_, rfl, gq hb67 rfl⟩⟩ (ov_fldA rfl rfl underlying33 rfl sz9 (by decide) rfl hp80 rfl hv81) ?_
      obtain ⟨b82, i83, x85, hp84, hg86, H⟩ := H
      refine lk (dt := some 143) R6_22_N rfl rfl ⟨_, rfl, .inl ⟨_, rfl, gq hb67 rfl⟩⟩ (ov_ldS rfl underlying9 rfl rfl hp84 hg86) ?_
      refine lk (dt := some 144) R6_22_N rfl rfl ⟨_, rfl, .inl ⟨_, rfl, gq hb67 rfl⟩⟩ (opv_move rfl rfl h4) ?_
      refine lk (dt := some 145) R6_22_N rfl rfl ⟨_, rfl, .inl ⟨_, rfl, gq hb67 rfl⟩⟩ (opv_eqS rfl rfl rfl rfl rfl) ?_
      refine lk (dt := some 146) R6_22_N rfl rfl rfl (ov_pickT rfl rfl rfl rfl rfl hb67 rfl) ?_
      refine lk (dt := some 147) R6_22_N rfl rfl rfl (opv_move rfl rfl rfl) ?_
      rcases Bool.eq_false_or_eq_true (decide (x85 = s_4)) with hb87 | hb87
      · replace H := cnd_t H hb87
        refine lk (dt := some 148) R6_22_N rfl rfl ⟨_, rfl, .inl ⟨_, rfl, gq hb87 rfl⟩⟩ (opv_move rfl rfl h8) ?_
        obtain ⟨b89, i90, l91, c92, p88, hp93, h094, hj95, hv96, H⟩ := H
        refine lk (dt := some 149) R6_22_N rfl rfl ⟨_, rfl, .inl ⟨_, rfl, gq hb87 rfl⟩⟩ (ov_ixS rfl rfl rfl underlying23 sz33 rfl rfl hp93 h094 hj95 hv96) ?_
        obtain ⟨b98, i99, p97, hp100, hv101, H⟩ := H
        refine lk (dt := some 150) R6_22_N rfl rfl ⟨_, rfl, .inl ⟨_, rfl, gq hb87 rfl⟩⟩ (ov_fldA rfl rfl underlying33 rfl sz5 (by decide) rfl hp100 rfl hv101) ?_
        obtain ⟨b102, i103, x105, hp104, hg106, H⟩ := H
        refine lk (dt := some 151) R6_22_N rfl rfl ⟨_, rfl, .inl ⟨_, rfl, gq hb87 rfl⟩⟩ (ov_ldI rfl underlying5 rfl rfl hp104 hg106) ?_
        refine lk (dt := some 152) R6_22_N rfl rfl ⟨_, rfl, .inl ⟨_, rfl, gq hb87 rfl⟩⟩ (opv_move rfl rfl h12) ?_
        refine lk (dt := some 153) R6_22_N rfl rfl ⟨_, rfl, .inl ⟨_, rfl, gq hb87 rfl⟩⟩ (opv_eqI rfl rfl rfl rfl rfl) ?_
        refine lk (dt := some 154) R6_22_N rfl rfl ⟨_, rfl, .inl ⟨_, rfl, gq hb87 rfl⟩⟩ (opv_move rfl rfl rfl) ?_
        rcases Bool.eq_false_or_eq_true (decide (x105 = want_12)) with hb107 | hb107
        · replace H := cnd_t H hb107
          refine lk_skip (dt := some 155) R6_22_N rfl rfl ⟨_, rfl, .inl ⟨_, rfl, gq hb107 rfl⟩⟩ ?_
          refine lk_skip (dt := some 156) R6_22_N rfl rfl ⟨_, rfl, .inl ⟨_, rfl, gq hb107 rfl⟩⟩ ?_
          refine lk (dt := some 157) R6_22_N rfl rfl ⟨_, rfl, .inl ⟨_, rfl, gq hb87 rfl⟩⟩ (ov_pickT rfl rfl rfl rfl rfl hb107 rfl) ?_
          refine lk (dt := some 158) R6_22_N rfl rfl rfl (ov_pickT rfl rfl rfl rfl rfl hb87 rfl) ?_
          refine lk (dt := some 2) R6_22_N rfl rfl rfl (opv_assign rfl rfl rfl) ?_
          refine aops_nil ?_
          exact ago_retE E6_71 (r := true) (ares_1 rfl (oneT rfl)) rfl H
        · replace H := cnd_f H hb107
          refine lk (dt := some 155) R6_22_N rfl rfl ⟨_, rfl, .inl ⟨_, rfl, gq hb107 rfl⟩⟩ (opv_move rfl rfl h4) ?_
          refine lk_call (dt := some 156) R6_22_N rfl rfl ⟨_, rfl, .inl ⟨_, rfl, gq hb107 rfl⟩⟩ (opc_of rfl rfl is13 (ma_cons rfl rfl)) H (fun _ _ h => ⟨rfl, h⟩) fun r108 aw109 H => ?_
          refine lk (dt := some 157) R6_22_N rfl rfl ⟨_, rfl, .inl ⟨_, rfl, gq hb87 rfl⟩⟩ (ov_pickF rfl rfl rfl rfl rfl hb107 rfl) ?_
          refine lk (dt := some 158) R6_22_N rfl rfl rfl (ov_pickT rfl rfl rfl rfl rfl hb87 rfl) ?_
          refine lk (dt := some 2) R6_22_N rfl rfl rfl (opv_assign rfl rfl rfl) ?_
          refine aops_nil ?_
          exact ago_retE E6_71 (r := r108) (ares_1 rfl (oneT rfl)) rfl H
      · replace H := cnd_f H hb87
        refine lk_skip (dt := some 148) R6_22_N rfl rfl ⟨_, rfl, .inl ⟨_, rfl, gq hb87 rfl⟩⟩ ?_
        refine lk_skip (dt := some 149) R6_22_N rfl rfl ⟨_, rfl, .inl ⟨_, rfl, gq hb87 rfl⟩⟩ ?_
        refine lk_skip (dt := some 150) R6_22_N rfl rfl ⟨_, rfl, .inl ⟨_, rfl, gq hb87 rfl⟩⟩ ?_
        refine lk_skip (dt := some 151) R6_22_N rfl rfl ⟨_, rfl, .inl ⟨_, rfl, gq hb87 rfl⟩⟩ ?_
        refine lk_skip (dt := some 152) R6_22_N rfl rfl ⟨_, rfl, .inl ⟨_, rfl, gq hb87 rfl⟩⟩ ?_
        refine lk_skip (dt := some 153) R6_22_N rfl rfl ⟨_, rfl, .inl ⟨_, rfl, gq hb87 rfl⟩⟩ ?_
        refine lk_skip (dt := some 154) R6_22_N rfl rfl ⟨_, rfl, .inl ⟨_, rfl, gq hb87 rfl⟩⟩ ?_
        refine lk_skip (dt := some 155) R6_22_N rfl rfl ⟨_, rfl, .inr ⟨rfl, rfl⟩⟩ ?_
        refine lk_skip (dt := some 156) R6_22_N rfl rfl ⟨_, rfl, .inr ⟨rfl, rfl⟩⟩ ?_
        refine lk_skip (dt := some 157) R6_22_N rfl rfl ⟨_, rfl, .inl ⟨_, rfl, gq hb87 rfl⟩⟩ ?_
        refine lk (dt := some 158) R6_22_N rfl rfl rfl (ov_pickF rfl rfl rfl rfl rfl hb87 rfl) ?_
        refine lk (dt := some 2) R6_22_N rfl rfl rfl (opv_assign rfl rfl rfl) ?_
        refine aops_nil ?_
        exact ago_retE E6_71 (r := false) (ares_1 rfl (oneT rfl)) rfl H
    · replace H := cnd_f H hb67
      refine lk_skip (dt := some 140) R6_22_N rfl rfl ⟨_, rfl, .inl ⟨_, rfl, gq hb67 rfl⟩⟩ ?_
      refine lk_skip (dt := some 141) R6_22_N rfl rfl ⟨_, rfl, .inl ⟨_, rfl, gq hb67 rfl⟩⟩ ?_
      refine lk_skip (dt := some 142) R6_22_N rfl rfl ⟨_, rfl, .inl ⟨_, rfl, gq hb67 rfl⟩⟩ ?_
      refine lk_skip (dt := some 143) R6_22_N rfl rfl ⟨_, rfl, .inl ⟨_, rfl, gq hb67 rfl⟩⟩ ?_
      refine lk_skip (dt := some 144) R6_22_N rfl rfl ⟨_, rfl, .inl ⟨_, rfl, gq hb67 rfl⟩⟩ ?_
      refine lk_skip (dt := some 145) R6_22_N rfl rfl ⟨_, rfl, .inl ⟨_, rfl, gq hb67 rfl⟩⟩ ?_
      refine lk (dt := some 146) R6_22_N rfl rfl rfl (ov_pickF rfl rfl rfl rfl rfl hb67 rfl) ?_
      refine lk (dt := some 147) R6_22_N rfl rfl rfl (opv_move rfl rfl rfl) ?_
      refine lk_skip (dt := some 148) R6_22_N rfl rfl ⟨_, rfl, .inl ⟨_, rfl, gq rfl rfl⟩⟩ ?_
      refine lk_skip (dt := some 149) R6_22_N rfl rfl ⟨_, rfl, .inl ⟨_, rfl, gq rfl rfl⟩⟩ ?_
      refine lk_skip (dt := some 150) R6_22_N rfl rfl ⟨_, rfl, .inl ⟨_, rfl, gq rfl rfl⟩⟩ ?_
      refine lk_skip (dt := some 151) R6_22_N rfl rfl ⟨_, rfl, .inl ⟨_, rfl, gq rfl rfl⟩⟩ ?_
      refine lk_skip (dt := some 152) R6_22_N rfl rfl ⟨_, rfl, .inl ⟨_, rfl, gq rfl rfl⟩⟩ ?_
      refine lk_skip (dt := some 153) R6_22_N rfl rfl ⟨_, rfl, .inl ⟨_, rfl, gq rfl rfl⟩⟩ ?_
      refine lk_skip (dt := some 154) R6_22_N rfl rfl ⟨_, rfl, .inl ⟨_, rfl, gq rfl rfl⟩⟩ ?_
      refine lk_skip (dt := some 155) R6_22_N rfl rfl ⟨_, rfl, .inr ⟨rfl, rfl⟩⟩ ?_
      refine lk_skip (dt := some 156) R6_22_N rfl rfl ⟨_, rfl, .inr ⟨rfl, rfl⟩⟩ ?_
      refine lk_skip (dt := some 157) R6_22_N rfl rfl ⟨_, rfl, .inl ⟨_, rfl, gq rfl rfl⟩⟩ ?_
      refine lk (dt := some 158) R6_22_N rfl rfl rfl (ov_pickF rfl rfl rfl rfl rfl rfl rfl) ?_
      refine lk (dt := some 2) R6_22_N rfl rfl rfl (opv_assign rfl rfl rfl) ?_
      refine aops_nil ?_
      exact ago_retE E6_71 (r := false) (ares_1 rfl (oneT rfl)) rfl H
  · replace H := cnd_f H hb60
    refine lk_skip (dt := some 135) R6_22_N rfl rfl ⟨_, rfl, .inl ⟨_, rfl, gq hb60 rfl⟩⟩ ?_
    refine lk_skip (dt := some 136) R6_22_N rfl rfl ⟨_, rfl, .inl ⟨_, rfl, gq hb60 rfl⟩⟩ ?_
    refine lk_skip (dt := some 137) R6_22_N rfl rfl ⟨_, rfl, .inl ⟨_, rfl, gq hb60 rfl⟩⟩ ?_
    refine lk (dt := some 138) R6_22_N rfl rfl rfl (ov_pickF rfl rfl rfl rfl rfl hb60 rfl) ?_
    refine lk (dt := some 139) R6_22_N rfl rfl rfl (opv_move rfl rfl rfl) ?_
    refine lk_skip (dt := some 140) R6_22_N rfl rfl ⟨_, rfl, .inl ⟨_, rfl, gq rfl rfl⟩⟩ ?_
    refine lk_skip (dt := some 141) R6_22_N rfl rfl ⟨_, rfl, .inl ⟨_, rfl, gq rfl rfl⟩⟩ ?_
    refine lk_skip (dt := some 142) R6_22_N rfl rfl ⟨_, rfl, .inl ⟨_, rfl, gq rfl rfl⟩⟩ ?_
    refine lk_skip (dt := some 143) R6_22_N rfl rfl ⟨_, rfl, .inl ⟨_, rfl, gq rfl rfl⟩⟩ ?_
    refine lk_skip (dt := some 144) R6_22_N rfl rfl ⟨_, rfl, .inl ⟨_, rfl, gq rfl rfl⟩⟩ ?_
    refine lk_skip (dt := some 145) R6_22_N rfl rfl ⟨_, rfl, .inl ⟨_, rfl, gq rfl rfl⟩⟩ ?_
    refine lk (dt := some 146) R6_22_N rfl rfl rfl (ov_pickF rfl rfl rfl rfl rfl rfl rfl) ?_
    refine lk (dt := some 147) R6_22_N rfl rfl rfl (opv_move rfl rfl rfl) ?_
    refine lk_skip (dt := some 148) R6_22_N rfl rfl ⟨_, rfl, .inl ⟨_, rfl, gq rfl rfl⟩⟩ ?_
    refine lk_skip (dt := some 149) R6_22_N rfl rfl ⟨_, rfl, .inl ⟨_, rfl, gq rfl rfl⟩⟩ ?_
    refine lk_skip (dt := some 150) R6_22_N rfl rfl ⟨_, rfl, .inl ⟨_, rfl, gq rfl rfl⟩⟩ ?_
    refine lk_skip (dt := some 151) R6_22_N rfl rfl ⟨_, rfl, .inl ⟨_, rfl, gq rfl rfl⟩⟩ ?_
    refine lk_skip (dt := some 152) R6_22_N rfl rfl ⟨_, rfl, .inl ⟨_, rfl, gq rfl rfl⟩⟩ ?_
    refine lk_skip (dt := some 153) R6_22_N rfl rfl ⟨_, rfl, .inl ⟨_, rfl, gq rfl rfl⟩⟩ ?_
    refine lk_skip (dt := some 154) R6_22_N rfl rfl ⟨_, rfl, .inl ⟨_, rfl, gq rfl rfl⟩⟩ ?_
    refine lk_skip (dt := some 155) R6_22_N rfl rfl ⟨_, rfl, .inr ⟨rfl, rfl⟩⟩ ?_
    refine lk_skip (dt := some 156) R6_22_N rfl rfl ⟨_, rfl, .inr ⟨rfl, rfl⟩⟩ ?_
    refine lk_skip (dt := some 157) R6_22_N rfl rfl ⟨_, rfl, .inl ⟨_, rfl, gq rfl rfl⟩⟩ ?_
    refine lk (dt := some 158) R6_22_N rfl rfl rfl (ov_pickF rfl rfl rfl rfl rfl rfl rfl) ?_
    refine lk (dt := some 2) R6_22_N rfl rfl rfl (opv_assign rfl rfl rfl) ?_
    refine aops_nil ?_
    exact ago_retE E6_71 (r := false) (ares_1 rfl (oneT rfl)) rfl H
set_option maxHeartbeats 4000000 in
set_option maxRecDepth 100000 in
theorem S6_2_ok (Q : Bool → AW → Prop) (E : List PanicEntry → AW → Prop)  (ρ : Env) (s_4 : ByteArray) (c_7 : Int) (t_58 : Bool) (aw : AW) (h4 : ρ 4 = .string s_4) (h7 : ρ 7 = .int .u8 c_7) (h58 : ρ 58 = .bool t_58) (H : S6_2 Q E  s_4 c_7 t_58 aw) :
    AGo prog 159 [.code C6_36, .code C6_41] ρ [] aw (RR prog f6 159 sh6 Q E) := by
  unfold S6_2 at H
  refine ago_condE  E6_36 rfl h58 (fun hb110 => ?_) (fun hb110 => ?_)
  · replace H := cnd_t H hb110
    refine ago_seqE E6_37 ?_
    refine ago_regE E6_38 (l := [0]) rfl ?_
    refine lk (dt := some 2) R6_12_N rfl rfl rfl (opv_assign rfl rfl rfl) ?_
    refine aops_nil ?_
    exact ago_retE E6_39 (r := true) (ares_1 rfl (oneT rfl)) rfl H
  · replace H := cnd_f H hb110
    refine ago_skipE E6_40 ?_
    refine ago_seqE E6_41 ?_
    refine ago_regE E6_42 (l := [0, 1, 2, 3, 4, 5, 6, 7, 8]) rfl ?_
    refine lk (dt := some 60) R6_13_N rfl rfl rfl (opv_move rfl rfl h4) ?_
    refine lk_call (dt := some 61) R6_13_N rfl rfl rfl (opc_of rfl rfl is10 (ma_cons rfl rfl)) H (fun _ _ h => ⟨rfl, h⟩) fun r111 aw112 H => ?_
    refine lk (dt := some 59) R6_13_N rfl rfl rfl (opv_move rfl rfl rfl) ?_
    refine lk (dt := some 62) R6_13_N rfl rfl rfl (opv_extract rfl rfl rfl rfl) ?_
    refine lk (dt := some 63) R6_13_N rfl rfl rfl (opv_extract rfl rfl rfl rfl) ?_
    refine lk (dt := some 64) R6_13_N rfl rfl rfl (opv_extract rfl rfl rfl rfl) ?_
    refine lk (dt := some 8) R6_13_N rfl rfl rfl (opv_assign rfl rfl rfl) ?_
    refine lk (dt := some 9) R6_13_N rfl rfl rfl (opv_assign rfl rfl rfl) ?_
    refine lk (dt := some 10) R6_13_N rfl rfl rfl (opv_assign rfl rfl rfl) ?_
    refine aops_nil ?_
    refine ago_seqE E6_43 ?_
    refine ago_seqE E6_44 ?_
    refine ago_regE E6_45 (l := [0, 1, 2]) rfl ?_
    refine lk (dt := some 65) R6_14_N rfl rfl rfl (opv_move rfl rfl h4) ?_
    refine lk (dt := some 66) R6_14_N rfl rfl rfl (opv_lenS rfl rfl rfl underlying9 rfl) ?_
    refine lk (dt := some 67) R6_14_N rfl rfl rfl (opv_gt rfl rfl rfl rfl rfl) ?_
    refine aops_nil ?_
    refine ago_condE  E6_46 rfl rfl (fun hb113 => ?_) (fun hb113 => ?_)
    · replace H := cnd_t H hb113
      refine ago_seqE E6_47 ?_
      refine ago_cut (fun ρ => ρ 9 = .int .i64 r111.2.1 ∧ ρ 10 = .int .i64 r111.2.2 ∧ True) ⟨rfl, rfl, trivial⟩ (fun ρ ⟨h9, h10, _⟩ => ?_)
      refine ago_regE E6_48 (l := [0, 1, 2, 3, 4, 5, 6]) rfl ?_
      refine lk (dt := some 68) R6_15_N rfl rfl rfl (opv_move rfl rfl h10) ?_
      refine lk (dt := some 69) R6_15_N rfl rfl rfl (opv_eqI rfl rfl rfl rfl rfl) ?_
      refine lk (dt := some 70) R6_15_N rfl rfl rfl (opv_move rfl rfl rfl) ?_
      rcases Bool.eq_false_or_eq_true (decide (r111.2.2 = 2)) with hb114 | hb114
      · replace H := cnd_t H hb114
        refine lk (dt := some 71) R6_15_N rfl rfl ⟨_, rfl, .inl ⟨_, rfl, gq hb114 rfl⟩⟩ (opv_move rfl rfl h9) ?_
        refine lk (dt := some 72) R6_15_N rfl rfl ⟨_, rfl, .inl ⟨_, rfl, gq hb114 rfl⟩⟩ (opv_eqI rfl rfl rfl rfl rfl) ?_
        refine lk (dt := some 73) R6_15_N rfl rfl rfl (ov_pickT rfl rfl rfl rfl rfl hb114 rfl) ?_
        refine lk (dt := some 2) R6_15_N rfl rfl rfl (opv_assign rfl rfl rfl) ?_
        refine aops_nil ?_
        exact ago_retE E6_49 (r := (decide (r111.2.1 = 0))) (ares_1 rfl (oneT rfl)) rfl H
      · replace H := cnd_f H hb114
        refine lk_skip (dt := some 71) R6_15_N rfl rfl ⟨_, rfl, .inl ⟨_, rfl, gq hb114 rfl⟩⟩ ?_
        refine lk_skip (dt := some 72) R6_15_N rfl rfl ⟨_, rfl, .inl ⟨_, rfl, gq hb114 rfl⟩⟩ ?_
        refine lk (dt := some 73) R6_15_N rfl rfl rfl (ov_pickF rfl rfl rfl rfl rfl hb114 rfl) ?_
        refine lk (dt := some 2) R6_15_N rfl rfl rfl (opv_assign rfl rfl rfl) ?_
        refine aops_nil ?_
        exact ago_retE E6_49 (r := false) (ares_1 rfl (oneT rfl)) rfl H
    · replace H := cnd_f H hb113
      refine ago_skipE E6_50 ?_
      refine ago_seqE E6_51 ?_
      refine ago_seqE E6_52 ?_
      refine ago_cut (fun ρ => ρ 4 = .string s_4 ∧ ρ 7 = .int .u8 c_7 ∧ ρ 8 = r111.1 ∧ ρ 9 = .int .i64 r111.2.1 ∧ ρ 10 = .int .i64 r111.2.2 ∧ True) ⟨h4, h7, rfl, rfl, rfl, trivial⟩ (fun ρ ⟨h4, h7, h8, h9, h10, _⟩ => ?_)
      refine ago_regE E6_53 (l := [0, 1]) rfl ?_
      refine lk (dt := some 74) R6_16_N rfl rfl rfl (opv_move rfl rfl h7) ?_
      refine lk (dt := some 75) R6_16_N rfl rfl rfl (opv_eqI rfl rfl rfl rfl rfl) ?_
      refine aops_nil ?_
      refine ago_condE  E6_54 rfl rfl (fun hb115 => ?_) (fun hb115 => ?_)
      · replace H := cnd_t H hb115
        refine ago_seqE E6_55 ?_
        refine ago_regE E6_56 (l := [0, 1, 2, 3, 4, 5, 6, 7, 8, 9, 10, 11, 12, 13]) rfl ?_
        refine lk (dt := some 76) R6_17_N rfl rfl rfl (opv_move rfl rfl h4) ?_
        refine lk (dt := some 77) R6_17_N rfl rfl rfl (opv_lenS rfl rfl rfl underlying9 rfl) ?_
        refine lk (dt := some 78) R6_17_N rfl rfl rfl (opv_gt rfl rfl rfl rfl rfl) ?_
        refine lk (dt := some 79) R6_17_N rfl rfl rfl (opv_move rfl rfl rfl) ?_
        rcases Bool.eq_false_or_eq_true (decide (1 < (s_4.size : Int))) with hb116 | hb116
        · replace H := cnd_t H hb116
          refine lk (dt := some 80) R6_17_N rfl rfl ⟨_, rfl, .inl ⟨_, rfl, gq hb116 rfl⟩⟩ (opv_move rfl rfl h4) ?_
          obtain ⟨c117, h0118, hj119, hv120, H⟩ := H
          refine lk (dt := some 81) R6_17_N rfl rfl ⟨_, rfl, .inl ⟨_, rfl, gq hb116 rfl⟩⟩ (ov_chr rfl rfl rfl underlying9 rfl rfl h0118 hj119 hv120) ?_
          refine lk (dt := some 82) R6_17_N rfl rfl ⟨_, rfl, .inl ⟨_, rfl, gq hb116 rfl⟩⟩ (opv_ge rfl rfl rfl rfl rfl) ?_
          refine lk (dt := some 83) R6_17_N rfl rfl rfl (ov_pickT rfl rfl rfl rfl rfl hb116 rfl) ?_
          refine lk (dt := some 84) R6_17_N rfl rfl rfl (opv_move rfl rfl rfl) ?_
          rcases Bool.eq_false_or_eq_true (decide (97 ≤ c117)) with hb121 | hb121
          · replace H := cnd_t H hb121
            refine lk (dt := some 85) R6_17_N rfl rfl ⟨_, rfl, .inl ⟨_, rfl, gq hb121 rfl⟩⟩ (opv_move rfl rfl h4) ?_
            obtain ⟨c122, h0123, hj124, hv125, H⟩ := H
            refine lk (dt := some 86) R6_17_N rfl rfl ⟨_, rfl, .inl ⟨_, rfl, gq hb121 rfl⟩⟩ (ov_chr rfl rfl rfl underlying9 rfl rfl h0123 hj124 hv125) ?_
            refine lk (dt := some 87) R6_17_N rfl rfl ⟨_, rfl, .inl ⟨_, rfl, gq hb121 rfl⟩⟩ (opv_le rfl rfl rfl rfl rfl) ?_
            refine lk (dt := some 88) R6_17_N rfl rfl rfl (ov_pickT rfl rfl rfl rfl rfl hb121 rfl) ?_
            refine lk (dt := some 11) R6_17_N rfl rfl rfl (opv_assign rfl rfl rfl) ?_
            refine aops_nil ?_
            exact S6_4_ok Q E  _ s_4 r111.1 r111.2.1 r111.2.2 (decide (c122 ≤ 122)) aw112 h4 h8 h9 h10 rfl H
          · replace H := cnd_f H hb121
            refine lk_skip (dt := some 85) R6_17_N rfl rfl ⟨_, rfl, .inl ⟨_, rfl, gq hb121 rfl⟩⟩ ?_
            refine lk_skip (dt := some 86) R6_17_N rfl rfl ⟨_, rfl, .inl ⟨_, rfl, gq hb121 rfl⟩⟩ ?_
            refine lk_skip (dt := some 87) R6_17_N rfl rfl ⟨_, rfl, .inl ⟨_, rfl, gq hb121 rfl⟩⟩ ?_
            refine lk (dt := some 88) R6_17_N rfl rfl rfl (ov_pickF rfl rfl rfl rfl rfl hb121 rfl) ?_
            refine lk (dt := some 11) R6_17_N rfl rfl rfl (opv_assign rfl rfl rfl) ?_
            refine aops_nil ?_
            exact S6_4_ok Q E  _ s_4 r111.1 r111.2.1 r111.2.2 false aw112 h4 h8 h9 h10 rfl H
        · replace H := cnd_f H hb116
          refine lk_skip (dt := some 80) R6_17_N rfl rfl ⟨_, rfl, .inl ⟨_, rfl, gq hb116 rfl⟩⟩ ?_
          refine lk_skip (dt := some 81) R6_17_N rfl rfl ⟨_, rfl, .inl ⟨_, rfl, gq hb116 rfl⟩⟩ ?_
          refine lk_skip (dt := some 82) R6_17_N rfl rfl ⟨_, rfl, .inl ⟨_, rfl, gq hb116 rfl⟩⟩ ?_
          refine lk (dt := some 83) R6_17_N rfl rfl rfl (ov_pickF rfl rfl rfl rfl rfl hb116 rfl) ?_
          refine lk (dt := some 84) R6_17_N rfl rfl rfl (opv_move rfl rfl rfl) ?_
          refine lk_skip (dt := some 85) R6_17_N rfl rfl ⟨_, rfl, .inl ⟨_, rfl, gq rfl rfl⟩⟩ ?_
          refine lk_skip (dt := some 86) R6_17_N rfl rfl ⟨_, rfl, .inl ⟨_, rfl, gq rfl rfl⟩⟩ ?_
          refine lk_skip (dt := some 87) R6_17_N rfl rfl ⟨_, rfl, .inl ⟨_, rfl, gq rfl rfl⟩⟩ ?_
          refine lk (dt := some 88) R6_17_N rfl rfl rfl (ov_pickF rfl rfl rfl rfl rfl rfl rfl) ?_
          refine lk (dt := some 11) R6_17_N rfl rfl rfl (opv_assign rfl rfl rfl) ?_
          refine aops_nil ?_
          exact S6_4_ok Q E  _ s_4 r111.1 r111.2.1 r111.2.2 false aw112 h4 h8 h9 h10 rfl H
      · replace H := cnd_f H hb115
        refine ago_skipE E6_60 ?_
        refine ago_seqE E6_61 ?_
        refine ago_regE E6_62 (l := [0]) rfl ?_
        refine lk (dt := some 12) R6_19_N rfl rfl rfl (opv_assign rfl rfl rfl) ?_
        refine aops_nil ?_
        refine ago_seqE E6_63 ?_
        refine ago_seqE E6_64 ?_
        refine ago_regE E6_65 (l := [0, 1, 2, 3, 4, 5]) rfl ?_
        refine lk (dt := some 126) R6_20_N rfl rfl rfl (opv_move rfl rfl h7) ?_
        refine lk (dt := some 127) R6_20_N rfl rfl rfl (opv_ge rfl rfl rfl rfl rfl) ?_
        refine lk (dt := some 128) R6_20_N rfl rfl rfl (opv_move rfl rfl rfl) ?_
        rcases Bool.eq_false_or_eq_true (decide (65 ≤ c_7)) with hb126 | hb126
        · replace H := cnd_t H hb126
          refine lk (dt := some 129) R6_20_N rfl rfl ⟨_, rfl, .inl ⟨_, rfl, gq hb126 rfl⟩⟩ (opv_move rfl rfl h7) ?_
          refine lk (dt := some 130) R6_20_N rfl rfl ⟨_, rfl, .inl ⟨_, rfl, gq hb126 rfl⟩⟩ (opv_le rfl rfl rfl rfl rfl) ?_
          refine lk (dt := some 131) R6_20_N rfl rfl rfl (ov_pickT rfl rfl rfl rfl rfl hb126 rfl) ?_
          refine aops_nil ?_
          refine ago_condE  E6_66 rfl rfl (fun hb127 => ?_) (fun hb127 => ?_)
          · replace H := cnd_t H hb127
            refine ago_regE E6_67 (l := [0]) rfl ?_
            refine lk (dt := some 12) R6_21_N rfl rfl rfl (opv_assign rfl rfl rfl) ?_
            refine aops_nil ?_
            exact S6_3_ok Q E  _ s_4 r111.1 r111.2.2 2 aw112 h4 h8 h10 rfl H
          · replace H := cnd_f H hb127
            refine ago_skipE E6_68 ?_
            exact S6_3_ok Q E  _ s_4 r111.1 r111.2.2 1 aw112 h4 h8 h10 rfl H
        · replace H := cnd_f H hb126
          refine lk_skip (dt := some 129) R6_20_N rfl rfl ⟨_, rfl, .inl ⟨_, rfl, gq hb126 rfl⟩⟩ ?_
          refine lk_skip (dt := some 130) R6_20_N rfl rfl ⟨_, rfl, .inl ⟨_, rfl, gq hb126 rfl⟩⟩ ?_
          refine lk (dt := some 131) R6_20_N rfl rfl rfl (ov_pickF rfl rfl rfl rfl rfl hb126 rfl) ?_
          refine aops_nil ?_
          refine ago_condE  E6_66 rfl rfl (fun h => ft h) (fun h => ?_)
          refine ago_skipE E6_68 ?_
          exact S6_3_ok Q E  _ s_4 r111.1 r111.2.2 1 aw112 h4 h8 h10 rfl H
set_option maxHeartbeats 4000000 in
set_option maxRecDepth 100000 in
theorem S6_1s_ok (Q : Bool → AW → Prop) (E : List PanicEntry → AW → Prop)  (nx1 : Value → ByteArray → ByteArray → Int → AW → Prop) (L1 : ∀ (ρ : Env) (p_0 : Value) (in_3 : ByteArray) (s_4 : ByteArray) (i_5 : Int) (aw : AW) (h0 : ρ 0 = p_0) (h3 : ρ 3 = .string in_3) (h4 : ρ 4 = .string s_4) (h5 : ρ 5 = .int .i64 i_5), nx1 p_0 in_3 s_4 i_5 aw → AGo prog 159 [.code C6_19, .inLoop C6_19, .inBlock 0, .code C6_31] ρ [] aw (RR prog f6 159 sh6 Q E)) (ρ : Env) (p_0 : Value) (in_3 : ByteArray) (s_4 : ByteArray) (i_5 : Int) (aw : AW) (h0 : ρ 0 = p_0) (h3 : ρ 3 = .string in_3) (h4 : ρ 4 = .string s_4) (h5 : ρ 5 = .int .i64 i_5) (H : S6_1s Q E  nx1 p_0 in_3 s_4 i_5 aw) :
    AGo prog 159 [.code C6_19, .inLoop C6_19, .inBlock 0, .code C6_31] ρ [] aw (RR prog f6 159 sh6 Q E) := by
  unfold S6_1s at H
  refine ago_seqE E6_19 ?_
  refine ago_seqE E6_20 ?_
  refine ago_regE E6_21 (l := [0, 1, 2, 3]) rfl ?_
  refine lk (dt := some 26) R6_6_N rfl rfl rfl (opv_move rfl rfl h5) ?_
  refine lk (dt := some 27) R6_6_N rfl rfl rfl (opv_move rfl rfl h0) ?_
  obtain ⟨q130, l131, c132, n129, hv133, hn134, H⟩ := H
  refine lk (dt := some 28) R6_6_N rfl rfl rfl (ov_len rfl rfl rfl underlying30 rfl hv133 hn134) ?_
  refine lk (dt := some 29) R6_6_N rfl rfl rfl (opv_lt rfl rfl rfl rfl rfl) ?_
  refine aops_nil ?_
  refine ago_condE  E6_22 rfl rfl (fun hb135 => ?_) (fun hb135 => ?_)
  · replace H := cnd_t H hb135
    refine ago_skipE E6_23 ?_
    refine ago_seqE E6_25 ?_
    refine ago_blockE E6_26 ?_
    refine ago_seqE E6_27 ?_
    refine ago_regE E6_28 (l := [0, 1, 2, 3, 4, 5, 6, 7, 8]) rfl ?_
    refine lk (dt := some 32) R6_8_N rfl rfl rfl (opv_move rfl rfl h0) ?_
    refine lk (dt := some 33) R6_8_N rfl rfl rfl (opv_move rfl rfl h5) ?_
    obtain ⟨b137, i138, l139, c140, p136, hp141, h0142, hj143, hv144, H⟩ := H
    refine lk (dt := some 34) R6_8_N rfl rfl rfl (ov_ixS rfl rfl rfl underlying30 sz5 rfl rfl hp141 h0142 hj143 hv144) ?_
    obtain ⟨b145, i146, x148, hp147, hg149, H⟩ := H
    refine lk (dt := some 35) R6_8_N rfl rfl rfl (ov_ldI rfl underlying5 rfl rfl hp147 hg149) ?_
    refine lk (dt := some 36) R6_8_N rfl rfl rfl (opv_conv rfl rfl underlying5 underlying3 rfl) ?_
    refine lk (dt := some 37) R6_8_N rfl rfl rfl (opv_move rfl rfl h3) ?_
    refine lk (dt := some 38) R6_8_N rfl rfl rfl (opv_lenS rfl rfl rfl underlying9 rfl) ?_
    obtain ⟨hz150, H⟩ := H
    refine lk (dt := some 39) R6_8_N rfl rfl rfl (opv_rem rfl rfl rfl rfl rfl hz150) ?_
    refine lk (dt := some 6) R6_8_N rfl rfl rfl (opv_assign rfl rfl rfl) ?_
    refine aops_nil ?_
    refine ago_cut (fun ρ => ρ 0 = p_0 ∧ ρ 3 = .string in_3 ∧ ρ 4 = .string s_4 ∧ ρ 5 = .int .i64 i_5 ∧ ρ 6 = .int .i64 (Int.tmod (IntKind.i64.wrap x148) (in_3.size : Int)) ∧ True) ⟨h0, h3, h4, h5, rfl, trivial⟩ (fun ρ ⟨h0, h3, h4, h5, h6, _⟩ => ?_)
    refine ago_regE E6_29 (l := [0, 1, 2, 3, 4, 5, 6, 7]) rfl ?_
    refine lk (dt := some 40) R6_9_N rfl rfl rfl (opv_move rfl rfl h4) ?_
    refine lk (dt := some 41) R6_9_N rfl rfl rfl (opv_move rfl rfl h3) ?_
    refine lk (dt := some 42) R6_9_N rfl rfl rfl (opv_move rfl rfl h6) ?_
    refine lk (dt := some 43) R6_9_N rfl rfl rfl (opv_move rfl rfl h6) ?_
    refine lk (dt := some 44) R6_9_N rfl rfl rfl (opv_add rfl rfl rfl rfl rfl) ?_
    obtain ⟨s151, hq152, hq153, hq154, hq155, H⟩ := H
    refine lk (dt := some 45) R6_9_N rfl rfl rfl (ov_cutS rfl rfl underlying9 rfl (bndS rfl) (bndS rfl) hq152 hq153 hq154 hq155) ?_
    obtain ⟨hz156, H⟩ := H
    refine lk (dt := some 46) R6_9_N rfl rfl rfl (opv_cat rfl rfl rfl rfl rfl hz156) ?_
    refine lk (dt := some 4) R6_9_N rfl rfl rfl (opv_assign rfl rfl rfl) ?_
    refine aops_nil ?_
    refine ago_inBlock ?_
    refine ago_regE E6_30 (l := [0, 1, 2]) rfl ?_
    refine lk (dt := some 30) R6_7_N rfl rfl rfl (opv_move rfl rfl h5) ?_
    refine lk (dt := some 31) R6_7_N rfl rfl rfl (opv_add rfl rfl rfl rfl rfl) ?_
    refine lk (dt := some 5) R6_7_N rfl rfl rfl (opv_assign rfl rfl rfl) ?_
    refine aops_nil ?_
    refine ago_inLoop ?_
    exact L1 _ p_0 in_3 (s_4 ++ s151) (IntKind.i64.wrap (i_5 + 1)) aw h0 h3 rfl rfl H
  · replace H := cnd_f H hb135
    refine ago_exitE E6_24 rfl ?_
    refine ago_seqE E6_31 ?_
    refine ago_regE E6_32 (l := [0, 1, 2]) rfl ?_
    refine lk (dt := some 47) R6_10_N rfl rfl rfl (opv_move rfl rfl h4) ?_
    obtain ⟨c157, h0158, hj159, hv160, H⟩ := H
    refine lk (dt := some 48) R6_10_N rfl rfl rfl (ov_chr rfl rfl rfl underlying9 rfl rfl h0158 hj159 hv160) ?_
    refine lk (dt := some 7) R6_10_N rfl rfl rfl (opv_assign rfl rfl rfl) ?_
    refine aops_nil ?_
    refine ago_seqE E6_33 ?_
    refine ago_seqE E6_34 ?_
    refine ago_regE E6_35 (l := [0, 1, 2, 3, 4, 5, 6, 7, 8, 9]) rfl ?_
    refine lk (dt := some 49) R6_11_N rfl rfl rfl (opv_move rfl rfl rfl) ?_
    refine lk (dt := some 50) R6_11_N rfl rfl rfl (opv_ge rfl rfl rfl rfl rfl) ?_
    refine lk (dt := some 51) R6_11_N rfl rfl rfl (opv_move rfl rfl rfl) ?_
    rcases Bool.eq_false_or_eq_true (decide (48 ≤ c157)) with hb161 | hb161
    · replace H := cnd_t H hb161
      refine lk (dt := some 52) R6_11_N rfl rfl ⟨_, rfl, .inl ⟨_, rfl, gq hb161 rfl⟩⟩ (opv_move rfl rfl rfl) ?_
      refine lk (dt := some 53) R6_11_N rfl rfl ⟨_, rfl, .inl ⟨_, rfl, gq hb161 rfl⟩⟩ (opv_le rfl rfl rfl rfl rfl) ?_
      refine lk (dt := some 54) R6_11_N rfl rfl rfl (ov_pickT rfl rfl rfl rfl rfl hb161 rfl) ?_
      refine lk (dt := some 55) R6_11_N rfl rfl rfl (opv_move rfl rfl rfl) ?_
      rcases Bool.eq_false_or_eq_true (decide (c157 ≤ 57)) with hb162 | hb162
      · replace H := cnd_t H hb162
        refine lk_skip (dt := some 56) R6_11_N rfl rfl ⟨_, rfl, .inl ⟨_, rfl, gq hb162 rfl⟩⟩ ?_
        refine lk_skip (dt := some 57) R6_11_N rfl rfl ⟨_, rfl, .inl ⟨_, rfl, gq hb162 rfl⟩⟩ ?_
        refine lk (dt := some 58) R6_11_N rfl rfl rfl (ov_pickT rfl rfl rfl rfl rfl hb162 rfl) ?_
        refine aops_nil ?_
        exact S6_2_ok Q E  _ s_4 c157 true aw h4 rfl rfl H
      · replace H := cnd_f H hb162
        refine lk (dt := some 56) R6_11_N rfl rfl ⟨_, rfl, .inl ⟨_, rfl, gq hb162 rfl⟩⟩ (opv_move rfl rfl rfl) ?_
        refine lk (dt := some 57) R6_11_N rfl rfl ⟨_, rfl, .inl ⟨_, rfl, gq hb162 rfl⟩⟩ (opv_eqI rfl rfl rfl rfl rfl) ?_
        refine lk (dt := some 58) R6_11_N rfl rfl rfl (ov_pickF rfl rfl rfl rfl rfl hb162 rfl) ?_
        refine aops_nil ?_
        exact S6_2_ok Q E  _ s_4 c157 (decide (c157 = 95)) aw h4 rfl rfl H
    · replace H := cnd_f H hb161
      refine lk_skip (dt := some 52) R6_11_N rfl rfl ⟨_, rfl, .inl ⟨_, rfl, gq hb161 rfl⟩⟩ ?_
      refine lk_skip (dt := some 53) R6_11_N rfl rfl ⟨_, rfl, .inl ⟨_, rfl, gq hb161 rfl⟩⟩ ?_
      refine lk (dt := some 54) R6_11_N rfl rfl rfl (ov_pickF rfl rfl rfl rfl rfl hb161 rfl) ?_
      refine lk (dt := some 55) R6_11_N rfl rfl rfl (opv_move rfl rfl rfl) ?_
      refine lk (dt := some 56) R6_11_N rfl rfl ⟨_, rfl, .inl ⟨_, rfl, gq rfl rfl⟩⟩ (opv_move rfl rfl rfl) ?_
      refine lk (dt := some 57) R6_11_N rfl rfl ⟨_, rfl, .inl ⟨_, rfl, gq rfl rfl⟩⟩ (opv_eqI rfl rfl rfl rfl rfl) ?_
      refine lk (dt := some 58) R6_11_N rfl rfl rfl (ov_pickF rfl rfl rfl rfl rfl rfl rfl) ?_
      refine aops_nil ?_
      exact S6_2_ok Q E  _ s_4 c157 (decide (c157 = 95)) aw h4 rfl rfl H
theorem S6_1_ok (Q : Bool → AW → Prop) (E : List PanicEntry → AW → Prop)  : ∀ (n : Nat) (ρ : Env) (p_0 : Value) (in_3 : ByteArray) (s_4 : ByteArray) (i_5 : Int) (aw : AW) (h0 : ρ 0 = p_0) (h3 : ρ 3 = .string in_3) (h4 : ρ 4 = .string s_4) (h5 : ρ 5 = .int .i64 i_5), S6_1 Q E  n p_0 in_3 s_4 i_5 aw →
    AGo prog 159 [.code C6_19, .inLoop C6_19, .inBlock 0, .code C6_31] ρ [] aw (RR prog f6 159 sh6 Q E)
  | 0, _, _, _, _, _, _, _, _, _, _ => fun H => H.elim
  | n + 1, ρ, p_0, in_3, s_4, i_5, aw, h0, h3, h4, h5 => fun H => S6_1s_ok Q E  _ (S6_1_ok Q E  n) ρ p_0 in_3 s_4 i_5 aw h0 h3 h4 h5 H
set_option maxHeartbeats 4000000 in
set_option maxRecDepth 100000 in
theorem S6_0_ok (Q : Bool → AW → Prop) (E : List PanicEntry → AW → Prop)  (ρ : Env) (p_0 : Value) (aw : AW) (h0 : ρ 0 = p_0) (H : S6_0 Q E  p_0 aw) :
    AGo prog 159 [.code C6_0] ρ [] aw (RR prog f6 159 sh6 Q E) := by
  unfold S6_0 at H
  refine ago_seqE E6_0 ?_
  refine ago_regE E6_1 (l := [0]) rfl ?_
  refine lk (dt := some 2) R6_0_N rfl rfl rfl (opv_assign rfl rfl rfl) ?_
  refine aops_nil ?_
  refine ago_seqE E6_2 ?_
  refine ago_seqE E6_3 ?_
  refine ago_regE E6_4 (l := [0, 1, 2, 3, 4, 5, 6, 7, 8, 9, 10, 11]) rfl ?_
  refine lk_call (dt := some 13) R6_1_N rfl rfl rfl (opc_of rfl rfl is9 rfl) H (fun _ _ h => ⟨rfl, h⟩) fun r163 aw164 H => ?_
  refine lk (dt := some 14) R6_1_N rfl rfl rfl (opv_not rfl rfl rfl) ?_
  refine lk (dt := some 15) R6_1_N rfl rfl rfl (opv_move rfl rfl rfl) ?_
  rcases Bool.eq_false_or_eq_true (!r163) with hb165 | hb165
  · replace H := cnd_t H hb165
    refine lk_skip (dt := some 16) R6_1_N rfl rfl ⟨_, rfl, .inl ⟨_, rfl, gq hb165 rfl⟩⟩ ?_
    refine lk_skip (dt := some 17) R6_1_N rfl rfl ⟨_, rfl, .inl ⟨_, rfl, gq hb165 rfl⟩⟩ ?_
    refine lk_skip (dt := some 18) R6_1_N rfl rfl ⟨_, rfl, .inl ⟨_, rfl, gq hb165 rfl⟩⟩ ?_
    refine lk (dt := some 19) R6_1_N rfl rfl rfl (ov_pickT rfl rfl rfl rfl rfl hb165 rfl) ?_
    refine lk (dt := some 20) R6_1_N rfl rfl rfl (opv_move rfl rfl rfl) ?_
    refine lk_skip (dt := some 21) R6_1_N rfl rfl ⟨_, rfl, .inl ⟨_, rfl, gq rfl rfl⟩⟩ ?_
    refine lk_skip (dt := some 22) R6_1_N rfl rfl ⟨_, rfl, .inl ⟨_, rfl, gq rfl rfl⟩⟩ ?_
    refine lk_skip (dt := some 23) R6_1_N rfl rfl ⟨_, rfl, .inl ⟨_, rfl, gq rfl rfl⟩⟩ ?_
    refine lk (dt := some 24) R6_1_N rfl rfl rfl (ov_pickT rfl rfl rfl rfl rfl rfl rfl) ?_
    refine aops_nil ?_
    refine ago_condE  E6_5 rfl rfl (fun h => ?_) (fun h => tf h)
    refine ago_seqE E6_6 ?_
    refine ago_regE E6_7 (l := [0, 1]) rfl ?_
    refine lk_call (dt := some 25) R6_2_N rfl rfl rfl (opc_of rfl rfl is9 rfl) H (fun _ _ h => ⟨rfl, h⟩) fun r167 aw168 H => ?_
    refine lk (dt := some 2) R6_2_N rfl rfl rfl (opv_assign rfl rfl rfl) ?_
    refine aops_nil ?_
    exact ago_retE E6_8 (r := r167) (ares_1 rfl (oneT rfl)) rfl H
  · replace H := cnd_f H hb165
    refine lk (dt := some 16) R6_1_N rfl rfl ⟨_, rfl, .inl ⟨_, rfl, gq hb165 rfl⟩⟩ (opv_move rfl rfl h0) ?_
    obtain ⟨q170, l171, c172, n169, hv173, hn174, H⟩ := H
    refine lk (dt := some 17) R6_1_N rfl rfl ⟨_, rfl, .inl ⟨_, rfl, gq hb165 rfl⟩⟩ (ov_len rfl rfl rfl underlying30 rfl hv173 hn174) ?_
    refine lk (dt := some 18) R6_1_N rfl rfl ⟨_, rfl, .inl ⟨_, rfl, gq hb165 rfl⟩⟩ (opv_eqI rfl rfl rfl rfl rfl) ?_
    refine lk (dt := some 19) R6_1_N rfl rfl rfl (ov_pickF rfl rfl rfl rfl rfl hb165 rfl) ?_
    refine lk (dt := some 20) R6_1_N rfl rfl rfl (opv_move rfl rfl rfl) ?_
    rcases Bool.eq_false_or_eq_true (decide (n169 = 0)) with hb175 | hb175
    · replace H := cnd_t H hb175
      refine lk_skip (dt := some 21) R6_1_N rfl rfl ⟨_, rfl, .inl ⟨_, rfl, gq hb175 rfl⟩⟩ ?_
      refine lk_skip (dt := some 22) R6_1_N rfl rfl ⟨_, rfl, .inl ⟨_, rfl, gq hb175 rfl⟩⟩ ?_
      refine lk_skip (dt := some 23) R6_1_N rfl rfl ⟨_, rfl, .inl ⟨_, rfl, gq hb175 rfl⟩⟩ ?_
      refine lk (dt := some 24) R6_1_N rfl rfl rfl (ov_pickT rfl rfl rfl rfl rfl hb175 rfl) ?_
      refine aops_nil ?_
      refine ago_condE  E6_5 rfl rfl (fun h => ?_) (fun h => tf h)
      refine ago_seqE E6_6 ?_
      refine ago_regE E6_7 (l := [0, 1]) rfl ?_
      refine lk_call (dt := some 25) R6_2_N rfl rfl rfl (opc_of rfl rfl is9 rfl) H (fun _ _ h => ⟨rfl, h⟩) fun r177 aw178 H => ?_
      refine lk (dt := some 2) R6_2_N rfl rfl rfl (opv_assign rfl rfl rfl) ?_
      refine aops_nil ?_
      exact ago_retE E6_8 (r := r177) (ares_1 rfl (oneT rfl)) rfl H
    · replace H := cnd_f H hb175
      refine lk (dt := some 21) R6_1_N rfl rfl ⟨_, rfl, .inl ⟨_, rfl, gq hb175 rfl⟩⟩ (opv_move rfl rfl h0) ?_
      obtain ⟨q180, l181, c182, n179, hv183, hn184, H⟩ := H
      refine lk (dt := some 22) R6_1_N rfl rfl ⟨_, rfl, .inl ⟨_, rfl, gq hb175 rfl⟩⟩ (ov_len rfl rfl rfl underlying30 rfl hv183 hn184) ?_
      refine lk (dt := some 23) R6_1_N rfl rfl ⟨_, rfl, .inl ⟨_, rfl, gq hb175 rfl⟩⟩ (opv_gt rfl rfl rfl rfl rfl) ?_
      refine lk (dt := some 24) R6_1_N rfl rfl rfl (ov_pickF rfl rfl rfl rfl rfl hb175 rfl) ?_
      refine aops_nil ?_
      refine ago_condE  E6_5 rfl rfl (fun hb185 => ?_) (fun hb185 => ?_)
      · replace H := cnd_t H hb185
        refine ago_seqE E6_6 ?_
        refine ago_regE E6_7 (l := [0, 1]) rfl ?_
        refine lk_call (dt := some 25) R6_2_N rfl rfl rfl (opc_of rfl rfl is9 rfl) H (fun _ _ h => ⟨rfl, h⟩) fun r186 aw187 H => ?_
        refine lk (dt := some 2) R6_2_N rfl rfl rfl (opv_assign rfl rfl rfl) ?_
        refine aops_nil ?_
        exact ago_retE E6_8 (r := r186) (ares_1 rfl (oneT rfl)) rfl H
      · replace H := cnd_f H hb185
        refine ago_skipE E6_9 ?_
        refine ago_seqE E6_10 ?_
        refine ago_cut (fun ρ => ρ 0 = p_0 ∧ True) ⟨h0, trivial⟩ (fun ρ ⟨h0, _⟩ => ?_)
        refine ago_regE E6_11 (l := [0]) rfl ?_
        refine lk (dt := some 3) R6_3_N rfl rfl rfl (opv_assign rfl rfl rfl) ?_
        refine aops_nil ?_
        refine ago_seqE E6_12 ?_
        refine ago_regE E6_13 (l := [0]) rfl ?_
        refine lk (dt := some 4) R6_4_N rfl rfl rfl (opv_assign rfl rfl rfl) ?_
        refine aops_nil ?_
        refine ago_seqE E6_14 ?_
        refine ago_seqE E6_15 ?_
        refine ago_regE E6_16 (l := [0]) rfl ?_
        refine lk (dt := some 5) R6_5_N rfl rfl rfl (opv_assign rfl rfl rfl) ?_
        refine aops_nil ?_
        refine ago_blockE E6_17 ?_
        refine ago_loopE E6_18 ?_
        obtain ⟨n, H⟩ := H
        exact S6_1_ok Q E  n _ p_0 (⟨#[97, 98, 99, 120, 121, 122, 65, 66, 88, 89, 90, 48, 49, 56, 57, 95, 39]⟩ : ByteArray) (⟨#[]⟩ : ByteArray) 0 aw164 h0 rfl rfl rfl H
theorem F6_ok {Q : Bool → AW → Prop} {E : List PanicEntry → AW → Prop} (p_0 : Value) (aw : AW) (H : S6_0 Q E p_0 aw) : CallP prog 6 [p_0] aw sh6 Q E :=
  callP_of func6 C6_is rfl (Nat.le_of_ble_eq_true rfl) (S6_0_ok Q E _ p_0 aw rfl H)
end Go.Proofs.Tryd
