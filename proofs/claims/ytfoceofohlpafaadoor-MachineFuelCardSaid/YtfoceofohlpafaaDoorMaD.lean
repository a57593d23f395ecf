/- Printed by a program of the prover: what the Go functions of this seat do, in steps. -/
import Derived.Test.YtfoceofohlpafaaDoorMaF
set_option linter.unusedSectionVars false
set_option linter.unusedSimpArgs false
set_option linter.unusedVariables false
namespace Go.Proofs.Tryd
open Go Go.Am Go.RowKit
set_option maxHeartbeats 4000000
set_option maxRecDepth 100000
noncomputable section
variable [SymE]
def C33_0 : Code := bodyOf f33
theorem C33_is : f33.body = some C33_0 := by kernel_rfl
def C33_1 : Code := cl C33_0
def R33_0 : Array Oper := regOps C33_1
def C33_2 : Code := cr C33_0
def R33_1 : Array Oper := regOps C33_2
theorem R33_0_N : dstsOk 8 R33_0 = true := by decide +kernel
theorem E33_1 : C33_1 = .region 0 R33_0 false := rfl
theorem R33_1_N : dstsOk 8 R33_1 = true := by decide +kernel
theorem E33_2 : C33_2 = .region 1 R33_1 false := rfl
theorem E33_0 : C33_0 = .seq C33_1 C33_2 := rfl
def S33_0 (Q : Unit → AW → Prop) (E : List PanicEntry → AW → Prop)  (b_0 : Value) (aw : AW) : Prop :=
  nck b_0 (fldA b_0 0 fun p2 =>
  st aw p2 [(.pointer none)] fun aw7 =>
  nck b_0 (fldA b_0 1 fun p15 =>
  st aw7 p15 [(.slice none 0 0)] fun aw20 =>
  Q () aw20))
theorem S33_0_ok (Q : Unit → AW → Prop) (E : List PanicEntry → AW → Prop)  (ρ : Env) (b_0 : Value) (aw : AW) (h0 : ρ 0 = b_0) (H : S33_0 Q E  b_0 aw) :
    AGo prog 8 [.code C33_0] ρ [] aw (RR prog f33 8 sh33 Q E) := by
  unfold S33_0 at H
  refine ago_seqE E33_0 ?_
  refine ago_regE E33_1 (l := [0, 1, 2, 3]) rfl ?_
  refine lk (dt := some 2) R33_0_N rfl rfl rfl (opv_move rfl rfl h0) ?_
  obtain ⟨hp1, H⟩ := H
  refine lk (dt := some 3) R33_0_N rfl rfl rfl (ov_nck rfl rfl rfl hp1) ?_
  obtain ⟨b3, i4, p2, hp5, hv6, H⟩ := H
  refine lk (dt := some 4) R33_0_N rfl rfl rfl (ov_fldA rfl rfl underlying75 rfl sz72 (by decide) rfl hp5 rfl hv6) ?_
  obtain ⟨b8, i9, aw7, hp10, hw11, ho12, ha13, H⟩ := H
  refine lk (dt := none) R33_0_N rfl rfl rfl (ov_st rfl rfl rfl rfl rfl (cells_all ho12) sz72 hp10 hw11 ho12 ha13) ?_
  refine aops_nil ?_
  refine ago_regE E33_2 (l := [0, 1, 2, 3]) rfl ?_
  refine lk (dt := some 5) R33_1_N rfl rfl rfl (opv_move rfl rfl h0) ?_
  obtain ⟨hp14, H⟩ := H
  refine lk (dt := some 6) R33_1_N rfl rfl rfl (ov_nck rfl rfl rfl hp14) ?_
  obtain ⟨b16, i17, p15, hp18, hv19, H⟩ := H
  refine lk (dt := some 7) R33_1_N rfl rfl rfl (ov_fldA rfl rfl underlying75 rfl sz73 (by decide) rfl hp18 rfl hv19) ?_
  obtain ⟨b21, i22, aw20, hp23, hw24, ho25, ha26, H⟩ := H
  refine lk (dt := none) R33_1_N rfl rfl rfl (ov_st rfl rfl rfl rfl rfl (cells_all ho25) sz73 hp23 hw24 ho25 ha26) ?_
  refine aops_nil ?_
  exact ago_nilR (r := ()) (ares_0 rfl ) rfl H
theorem F33_ok {Q : Unit → AW → Prop} {E : List PanicEntry → AW → Prop} (b_0 : Value) (aw : AW) (H : S33_0 Q E b_0 aw) : CallP prog 33 [b_0] aw sh33 Q E :=
  callP_of func33 C33_is rfl (Nat.le_of_ble_eq_true rfl) (S33_0_ok Q E _ b_0 aw rfl H)
def C36_0 : Code := bodyOf f36
theorem C36_is : f36.body = some C36_0 := by kernel_rfl
def C36_1 : Code := cl C36_0
def R36_0 : Array Oper := regOps C36_1
def C36_2 : Code := cr C36_0
def C36_3 : Code := cl C36_2
def R36_1 : Array Oper := regOps C36_3
def C36_4 : Code := cr C36_2
theorem R36_0_N : dstsOk 14 R36_0 = true := by decide +kernel
theorem E36_1 : C36_1 = .region 0 R36_0 false := rfl
theorem R36_1_N : dstsOk 14 R36_1 = true := by decide +kernel
theorem R36_1_O : linOk R36_1 [0, 1, 2, 3, 5, 6, 7, 8, 9] [(4, [5, 6, 7, 8, 9], []), (10, [], [11])] = true := by decide +kernel
theorem E36_3 : C36_3 = .region 1 R36_1 true := rfl
theorem E36_4 : C36_4 = .ret := rfl
theorem E36_2 : C36_2 = .seq C36_3 C36_4 := rfl
theorem E36_0 : C36_0 = .seq C36_1 C36_2 := rfl
def S36_0 (Q : ByteArray → AW → Prop) (E : List PanicEntry → AW → Prop)  (b_0 : Value) (aw : AW) : Prop :=
  nck b_0 (fldA b_0 1 fun p2 =>
  ldV aw p2 fun x10 =>
  nck b_0 (fldA b_0 1 fun p13 =>
  ldV aw p13 fun x21 =>
  slen x21 fun n23 =>
  usd x10 fun p29 =>
  again1 aw p13 (x21) ∧ uStr prog aw 5 p29 n23 fun s32 aw33 =>
  Q s32 aw33))
theorem S36_0_ok (Q : ByteArray → AW → Prop) (E : List PanicEntry → AW → Prop)  (ρ : Env) (b_0 : Value) (aw : AW) (h0 : ρ 0 = b_0) (H : S36_0 Q E  b_0 aw) :
    AGo prog 14 [.code C36_0] ρ [] aw (RR prog f36 14 sh36 Q E) := by
  unfold S36_0 at H
  refine ago_seqE E36_0 ?_
  refine ago_regE E36_1 (l := [0]) rfl ?_
  refine lk (dt := some 2) R36_0_N rfl rfl rfl (opv_assign rfl rfl rfl) ?_
  refine aops_nil ?_
  refine ago_seqE E36_2 ?_
  obtain ⟨hp1, H⟩ := H
  obtain ⟨b3, i4, p2, hp5, hv6, H⟩ := H
  obtain ⟨b7, i8, x10, hp9, hg11, H⟩ := H
  obtain ⟨hp12, H⟩ := H
  obtain ⟨b14, i15, p13, hp16, hv17, H⟩ := H
  obtain ⟨b18, i19, x21, hp20, hg22, H⟩ := H
  obtain ⟨q24, l25, c26, n23, hv27, hn28, H⟩ := H
  refine ago_drawH (p := [0, 1, 2, 3, 5, 6, 7, 8, 9]) (tl := [(4, [5, 6, 7, 8, 9], []), (10, [], [11])]) (hv := [(0, b_0), (1, b_0), (2, p2), (3, x10), (5, b_0), (6, b_0), (7, p13), (8, x21), (9, Value.int .i64 n23)]) E36_3 mixed R36_1_N R36_1_O rfl (pv_cons rfl (pv_cons rfl (pv_cons rfl (pv_cons rfl (pv_cons rfl (pv_cons rfl (pv_cons rfl (pv_cons rfl (pv_cons rfl (pv_nil _))))))))))
    (ffc (d := 3) (v := b_0) (hd_v rfl fun ρ hρ => ⟨rfl, opv_move rfl rfl ((hρ 0 (lmem rfl)).trans h0)⟩) rfl rfl
    (ffc (d := 4) (v := b_0) (hd_v rfl fun ρ hρ => ⟨rfl, ov_nck rfl rfl ((hρ 3 (lmem rfl)).trans rfl) hp1⟩) rfl rfl
    (ffc (d := 5) (v := p2) (hd_v rfl fun ρ hρ => ⟨rfl, ov_fldA rfl rfl underlying75 rfl sz73 (by decide) ((hρ 4 (lmem rfl)).trans rfl) hp5 rfl hv6⟩) rfl rfl
    (ffc (d := 6) (v := x10) (hd_v rfl fun ρ hρ => ⟨rfl, ov_ldV rfl underlying73 rfl rfl ((hρ 5 (lmem rfl)).trans rfl) hp9 hg11⟩) rfl rfl
    (ffc (d := 8) (v := b_0) (hd_v rfl fun ρ hρ => ⟨rfl, opv_move rfl rfl ((hρ 0 (lmem rfl)).trans h0)⟩) rfl rfl
    (ffc (d := 9) (v := b_0) (hd_v rfl fun ρ hρ => ⟨rfl, ov_nck rfl rfl ((hρ 8 (lmem rfl)).trans rfl) hp12⟩) rfl rfl
    (ffc (d := 10) (v := p13) (hd_v rfl fun ρ hρ => ⟨rfl, ov_fldA rfl rfl underlying75 rfl sz73 (by decide) ((hρ 9 (lmem rfl)).trans rfl) hp16 rfl hv17⟩) rfl rfl
    (ffc (d := 11) (v := x21) (hd_v rfl fun ρ hρ => ⟨rfl, ov_ldV rfl underlying73 rfl rfl ((hρ 10 (lmem rfl)).trans rfl) hp20 hg22⟩) rfl rfl
    (ffc (d := 12) (v := .int .i64 n23) (hd_v rfl fun ρ hρ => ⟨rfl, ov_len rfl rfl rfl underlying73 ((hρ 11 (lmem rfl)).trans rfl) hv27 hn28⟩) rfl rfl
    ffn))))))))) ?_
  obtain ⟨p29, hp30, hv31, H⟩ := H
  refine lt_val (dt := some 7) (v := p29) rfl rfl (fun ρ hρ => ⟨rfl, ov_usd rfl rfl ((hρ 6 (lmem rfl)).trans rfl) hp30 hv31⟩) ?_
  obtain ⟨hg22, H⟩ := H
  replace hg22 := hg22 _ _ hp20
  refine lt_next (l := [5, 6, 7, 8, 9]) (hv := []) rfl rfl (pv_nil _)
    (ffc (d := 8) (v := b_0) (hd_v rfl fun ρ hρ => ⟨rfl, opv_move rfl rfl ((hρ 0 (lmem rfl)).trans h0)⟩) rfl rfl
    (ffc (d := 9) (v := b_0) (hd_v rfl fun ρ hρ => ⟨rfl, ov_nck rfl rfl ((hρ 8 (lmem rfl)).trans rfl) hp12⟩) rfl rfl
    (ffc (d := 10) (v := p13) (hd_v rfl fun ρ hρ => ⟨rfl, ov_fldA rfl rfl underlying75 rfl sz73 (by decide) ((hρ 9 (lmem rfl)).trans rfl) hp16 rfl hv17⟩) rfl rfl
    (ffc (d := 11) (v := x21) (hd_v rfl fun ρ hρ => ⟨rfl, ov_ldV rfl underlying73 rfl rfl ((hρ 10 (lmem rfl)).trans rfl) hp20 hg22⟩) rfl rfl
    (ffc (d := 12) (v := .int .i64 n23) (hd_v rfl fun ρ hρ => ⟨rfl, ov_len rfl rfl rfl underlying73 ((hρ 11 (lmem rfl)).trans rfl) hv27 hn28⟩) rfl rfl
    ffn))))) ?_
  obtain ⟨s32, aw33, hp34, H⟩ := H
  refine lt_val (dt := some 13) (v := .string s32) rfl rfl (fun ρ hρ => ⟨rfl, ov_ustr rfl rfl rfl underlying118 (by kernel_rfl) ((hρ 7 (lmem rfl)).trans rfl) ((hρ 12 (lmem rfl)).trans rfl) hp34⟩) ?_
  refine lt_next (l := [11]) (hv := [(11, Value.string s32)]) rfl rfl (pv_cons rfl (pv_nil _))
    (ffc (d := 2) (v := .string s32) (hd_v rfl fun ρ hρ => ⟨rfl, opv_assign rfl rfl ((hρ 13 (lmem rfl)).trans rfl)⟩) rfl rfl
    ffn) ?_
  refine lt_end ?_
  exact ago_retE E36_4 (r := s32) (ares_1 rfl (oneT rfl)) rfl H
theorem F36_ok {Q : ByteArray → AW → Prop} {E : List PanicEntry → AW → Prop} (b_0 : Value) (aw : AW) (H : S36_0 Q E b_0 aw) : CallP prog 36 [b_0] aw sh36 Q E :=
  callP_of func36 C36_is rfl (Nat.le_of_ble_eq_true rfl) (S36_0_ok Q E _ b_0 aw rfl H)
end
end Go.Proofs.Tryd
