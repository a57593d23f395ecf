/- Printed by a program of the prover: what the Go functions of this seat do, in steps. -/
import Derived.Test.YtfdfakapkhflcaaBaF
set_option linter.unusedSectionVars false
set_option linter.unusedSimpArgs false
set_option linter.unusedVariables false
namespace Go.Proofs.Try
open Go Go.Am Go.RowKit
set_option maxHeartbeats 4000000
set_option maxRecDepth 100000
noncomputable section
variable [SymE]
def C57_0 : Code := bodyOf f57
theorem C57_is : f57.body = some C57_0 := by kernel_rfl
def C57_1 : Code := cl C57_0
def R57_0 : Array Oper := regOps C57_1
def C57_2 : Code := cr C57_0
def C57_3 : Code := cl C57_2
def C57_4 : Code := cl C57_3
def R57_1 : Array Oper := regOps C57_4
def C57_5 : Code := cr C57_3
def C57_6 : Code := cl C57_5
def C57_7 : Code := cl C57_6
def R57_2 : Array Oper := regOps C57_7
def C57_8 : Code := cr C57_6
def C57_9 : Code := cr C57_5
def C57_10 : Code := cr C57_2
def C57_11 : Code := cl C57_10
def R57_3 : Array Oper := regOps C57_11
def C57_12 : Code := cr C57_10
theorem R57_0_N : dstsOk 8 R57_0 = true := by decide +kernel
theorem E57_1 : C57_1 = .region 0 R57_0 false := rfl
theorem R57_1_N : dstsOk 8 R57_1 = true := by decide +kernel
theorem E57_4 : C57_4 = .region 1 R57_1 false := rfl
theorem R57_2_N : dstsOk 8 R57_2 = true := by decide +kernel
theorem E57_7 : C57_7 = .region 2 R57_2 false := rfl
theorem E57_8 : C57_8 = .ret := rfl
theorem E57_6 : C57_6 = .seq C57_7 C57_8 := rfl
theorem E57_9 : C57_9 = .skip := rfl
theorem E57_5 : C57_5 = .cond (.tmp 4) C57_6 C57_9 := rfl
theorem E57_3 : C57_3 = .seq C57_4 C57_5 := rfl
theorem R57_3_N : dstsOk 8 R57_3 = true := by decide +kernel
theorem E57_11 : C57_11 = .region 3 R57_3 false := rfl
theorem E57_12 : C57_12 = .ret := rfl
theorem E57_10 : C57_10 = .seq C57_11 C57_12 := rfl
theorem E57_2 : C57_2 = .seq C57_3 C57_10 := rfl
theorem E57_0 : C57_0 = .seq C57_1 C57_2 := rfl
def S57_0 (Q : Value → AW → Prop) (E : List PanicEntry → AW → Prop)  (s_0 : Value) (aw : AW) : Prop :=
  nilB (.slice 5) s_0 (.slice none 0 0) fun q1 =>
  cnd q1 (Q (.slice none 0 0) aw) (alcS aw [] 5 1 0 fun p5 aw6 =>
  app aw6 5 1 1 p5 s_0 fun v9 aw10 =>
  Q v9 aw10)
theorem S57_0_ok (Q : Value → AW → Prop) (E : List PanicEntry → AW → Prop)  (ρ : Env) (s_0 : Value) (aw : AW) (h0 : ρ 0 = s_0) (H : S57_0 Q E  s_0 aw) :
    AGo prog 8 [.code C57_0] ρ [] aw (RR prog f57 8 sh57 Q E) := by
  unfold S57_0 at H
  refine ago_seqE E57_0 ?_
  refine ago_regE E57_1 (l := [0]) rfl ?_
  refine lk (dt := some 2) R57_0_N rfl rfl rfl (opv_assign rfl rfl rfl) ?_
  refine aops_nil ?_
  refine ago_seqE E57_2 ?_
  refine ago_seqE E57_3 ?_
  refine ago_regE E57_4 (l := [0, 1]) rfl ?_
  refine lk (dt := some 3) R57_1_N rfl rfl rfl (opv_move rfl rfl h0) ?_
  obtain ⟨q1, hf2, hq3, H⟩ := H
  refine lk (dt := some 4) R57_1_N rfl rfl rfl (ov_eqNil rfl rfl underlying25 rfl hf2 hq3) ?_
  refine aops_nil ?_
  refine ago_condE  E57_5 rfl rfl (fun hb4 => ?_) (fun hb4 => ?_)
  · replace H := cnd_t H hb4
    refine ago_seqE E57_6 ?_
    refine ago_regE E57_7 (l := [0]) rfl ?_
    refine lk (dt := some 2) R57_2_N rfl rfl rfl (opv_assign rfl rfl rfl) ?_
    refine aops_nil ?_
    exact ago_retE E57_8 (r := (.slice none 0 0)) (ares_1 rfl (oneT rfl)) rfl H
  replace H := cnd_f H hb4
  refine ago_skipE E57_9 ?_
  refine ago_seqE E57_10 ?_
  refine ago_regE E57_11 (l := [0, 1, 2, 3]) rfl ?_
  obtain ⟨p5, aw6, hp7, ha8, H⟩ := H
  refine lk (dt := some 5) R57_3_N rfl rfl rfl (ov_bs0 rfl underlying25 sz5 hp7 ha8) ?_
  refine lk (dt := some 6) R57_3_N rfl rfl rfl (opv_move rfl rfl h0) ?_
  obtain ⟨v9, aw10, hq11, H⟩ := H
  refine lk (dt := some 7) R57_3_N rfl rfl rfl (ov_app rfl rfl rfl rfl underlying25 sz5 by5 underlying25 rfl z5 rfl (by decide) (by decide) rfl rfl hq11) ?_
  refine lk (dt := some 2) R57_3_N rfl rfl rfl (opv_assign rfl rfl rfl) ?_
  refine aops_nil ?_
  exact ago_retE E57_12 (r := v9) (ares_1 rfl (oneT rfl)) rfl H
theorem F57_ok {Q : Value → AW → Prop} {E : List PanicEntry → AW → Prop} (s_0 : Value) (aw : AW) (H : S57_0 Q E s_0 aw) : CallP prog 57 [s_0] aw sh57 Q E :=
  callP_of func57 C57_is rfl (Nat.le_of_ble_eq_true rfl) (S57_0_ok Q E _ s_0 aw rfl H)
end
end Go.Proofs.Try
