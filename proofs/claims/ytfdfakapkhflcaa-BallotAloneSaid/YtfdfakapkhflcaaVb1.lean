/- slices.AppendSeq over slices.Values. -/
import Derived.Test.YtfdfakapkhflcaaVa1
import Derived.Test.YtfdfakapkhflcaaBcB
import Derived.Test.YtfdfakapkhflcaaL3
set_option linter.unusedSimpArgs false
set_option linter.unusedVariables false
set_option linter.unusedSectionVars false
set_option maxRecDepth 100000
namespace Go.Proofs.Try
open Go Go.Am Go.RowKit Go.Ri
def raA : Code → Code
  | .rangeFunc _ _ a _ => a
  | c => c
def raB : Code → Code
  | .rangeFunc _ _ _ b => b
  | c => c
noncomputable def A0 : Code := bodyOf f77
theorem A0_is : f77.body = some A0 := by kernel_rfl
noncomputable def A1 : Code := cl A0
noncomputable def A2 : Code := cr A0
noncomputable def A3 : Code := cl A2
noncomputable def A4 : Code := cr A2
noncomputable def A5 : Code := cl A3
noncomputable def A6 : Code := cr A3
noncomputable def A7 : Code := cl A6
noncomputable def A8 : Code := raA A7
noncomputable def A9 : Code := raB A7
noncomputable def A10 : Code := cl A9
noncomputable def A11 : Code := cl A4
noncomputable def A12 : Code := cr A4
noncomputable def AR0 : Array Oper := regOps A1
noncomputable def AR1 : Array Oper := regOps A5
noncomputable def AR2 : Array Oper := regOps A8
noncomputable def AR3 : Array Oper := regOps A10
noncomputable def AR4 : Array Oper := regOps A11
theorem EA0 : A0 = .seq A1 A2 := rfl
theorem EA1 : A1 = .region 0 AR0 false := rfl
theorem EA2 : A2 = .seq A3 A4 := rfl
theorem EA3 : A3 = .seq A5 A6 := rfl
theorem EA5 : A5 = .region 1 AR1 false := rfl
theorem EA6 : A6 = .block 0 A7 := rfl
theorem EA7 : A7 = .rangeFunc (.tmp 6) #[7] A8 A9 := rfl
theorem EA8 : A8 = .region 2 AR2 false := rfl
theorem EA9 : A9 = .block 1 A10 := rfl
theorem EA10 : A10 = .region 3 AR3 false := rfl
theorem EA4 : A4 = .seq A11 A12 := rfl
theorem EA11 : A11 = .region 4 AR4 false := rfl
theorem EA12 : A12 = .ret := rfl
theorem AR0_N : dstsOk 13 AR0 = true := by decide +kernel
theorem AR1_N : dstsOk 13 AR1 = true := by decide +kernel
theorem AR4_N : dstsOk 13 AR4 = true := by decide +kernel
theorem u28 : prog.underlying 28 = some (.slice 24) := by kernel_rfl
theorem u24 : prog.underlying 24 = some (.int .u64) := by kernel_rfl
theorem vals76 : IsVals prog 76 28 24 := ⟨f76, _, _, _, _, _, _, _, _, _, _, _, _, _, _, _, _, func76, by kernel_rfl, by kernel_rfl, by kernel_rfl, rfl, rfl, rfl, rfl, rfl, rfl⟩
variable [SymE] [FT] [FTok]
theorem cell_of : ∀ {cs : List Value} {i : Nat} {v : Value}, cs[i]? = some v → Cell cs i v
  | c :: cs, 0, v, h => by simp at h; subst h; exact .here
  | c :: cs, i + 1, v, h => .there (cell_of (by simpa using h))
theorem _root_.Go.Am.At.appL {L l : List (Nat × Blk)} {b : Nat} {B : Blk} (h : At l b B) : At (L ++ l) b B := by
  induction L with
  | nil => exact h
  | cons x L ih => exact .there ih
def Here (ro l : List (Nat × Blk)) (b : Nat) (B : Blk) : Prop := At ro b B ∨ At l b B
section
variable {aw0 aw : AW} {own : List Nat} {ro l L : List (Nat × Blk)} {b2 i : Nat} {sv : Value} {os : List Value} {E : List PanicEntry → AW → Prop}
theorem round77 {ρ : Env} {n : Int} (h7 : ρ 7 = .int .u64 n) (h2 : ρ 2 = .pointer (some ⟨b2, 0, none⟩)) (hp : SlP 24 1 sv i os L) (hi : i < 2 ^ 30) (M : Hp aw0 own ro aw ((b2, ⟨[sv], 28, 0, true, 0⟩) :: (L ++ l))) :
    ∃ ρ1 ρ2 aw2 sv' L', (∀ kk, Seg prog 13 (.code A8 :: kk) kk ρ ρ1 aw aw) ∧ (∀ kk, Seg prog 13 (.code A9 :: kk) kk ρ1 ρ2 aw aw2) ∧ SlP 24 1 sv' (i + 1) (os.take i ++ [.int .u64 n]) L' ∧ Hp aw0 own ro aw2 ((b2, ⟨[sv'], 28, 0, true, 0⟩) :: (L' ++ l)) := by
  let ρ1 : Env := ρ.put (some 5) (.int .u64 n)
  have hsv : aw.get b2 0 = some sv := (M.im .here).get .here
  obtain ⟨pb, aw1, hpb, ha1, M1⟩ : alcS aw [.int .u64 n] 24 1 1 fun p aw1 => ∃ pb, p = .slice (some ⟨pb, 0, none⟩) 1 1 ∧ Hp aw0 own ro aw1 ((pb, ⟨[.int .u64 n], 24, 1, true, 0⟩) :: (b2, ⟨[sv], 28, 0, true, 0⟩) :: (L ++ l)) := alcS_x M fun b aw' M' => ⟨b, rfl, M'⟩
  obtain ⟨nb, hnb, M1⟩ := M1
  have M2 : Hp aw0 own ro aw1 (L ++ ((nb, ⟨[.int .u64 n], 24, 1, true, 0⟩) :: (b2, ⟨[sv], 28, 0, true, 0⟩) :: l)) := M1.perm (by
    classical exact List.perm_iff_count.2 fun a => by simp only [List.count_append, List.count_cons]; omega)
  obtain ⟨v2, aw2, hA, hv2⟩ : app aw1 24 1 8 sv (.slice (some ⟨nb, 0, none⟩) 1 1) fun v aw' => ∃ L', SlP 24 1 v (i + 1) (os.take i ++ [.int .u64 n]) L' ∧ Hp aw0 own ro aw' ((b2, ⟨[sv], 28, 0, true, 0⟩) :: (L' ++ l)) := by
    refine app_p hp M2 (src_s (M1.im .here) rfl (by repeat constructor)) (by decide) rfl (by omega) fun b aw' M' => ⟨[(b, ⟨os.take i ++ [.int .u64 n], 24, 1, true, 0⟩)], ?_, ?_⟩
    · exact .some (by rw [List.length_append, List.length_take]; have := hp.len; simp; omega)
    · rw [Nat.mul_one] at M'
      exact (M'.drop (.there .here)).perm (by
        classical exact List.perm_iff_count.2 fun a => by simp only [List.count_append, List.count_cons, List.count_nil]; omega)
  obtain ⟨L', hp', M3⟩ := hv2
  have hv2o : one v2 = true := by obtain ⟨q, c, hv⟩ := hp'.val; rw [hv]; rfl
  have hA' : App aw1 24 1 8 sv pb v2 aw2 := by rw [hnb]; exact hA
  obtain ⟨bq, jq, aw3, hq, hw, ho, ha3, M4⟩ : st aw2 (.pointer (some ⟨b2, 0, none⟩)) [v2] fun aw' => Hp aw0 own ro aw' ((b2, ⟨[v2], 28, 0, true, 0⟩) :: (L' ++ l)) := by
    obtain ⟨q, c, hv⟩ := hp'.val
    exact st_x M3 .here (by repeat constructor) rfl rfl (by rw [hv]; rfl) fun aw' M' => M'
  refine ⟨ρ1, ((((ρ1.put (some 8) sv).put (some 9) (.int .u64 n)).put (some 10) pb).put (some 11) v2).put none undef, aw3, v2, L', fun kk => ?_, fun kk => ?_, hp', M4⟩
  · rw [EA8]
    refine (Seg.regionN (n := 1) rfl).trans ?_
    refine (Seg.val (N := 13) (ops := AR2) (i := 0) (rest := []) (v := .int .u64 n) (aw' := aw) rfl rfl (fun d h => by cases h; decide) (fun c h => by cases h) (opv_assign rfl rfl h7)).trans ?_
    exact Seg.regionEnd
  · rw [EA9, EA10]
    refine (Seg.one fun _ _ _ _ => stepR_block).trans ((Seg.regionN (n := 5) rfl).trans ?_)
    refine (Seg.val (N := 13) (ρ := ρ1) (ops := AR3) (i := 0) (rest := [1, 2, 3, 4]) (v := sv) (aw' := aw) rfl rfl (fun d h => by cases h; decide) (fun c h => by cases h) (ov_ldV rfl u28 rfl rfl (show Env.eval ρ1 (.tmp 2) = .pointer (some ⟨b2, 0, none⟩) from h2) rfl hsv)).trans ?_
    refine (Seg.val (N := 13) (ops := AR3) (i := 1) (rest := [2, 3, 4]) (v := .int .u64 n) (aw' := aw) rfl rfl (fun d h => by cases h; decide) (fun c h => by cases h) (opv_move rfl rfl rfl)).trans ?_
    refine (Seg.val (N := 13) (ops := AR3) (ρ := (ρ1.put (some 8) sv).put (some 9) (.int .u64 n)) (i := 2) (rest := [3, 4]) (v := pb) (aw' := aw1) rfl rfl (fun d h => by cases h; decide) (fun c h => by cases h) (ov_bsA (r := [.int .u64 n]) (vs := [.int .u64 n]) rfl rfl u28 sz24 z24 rfl rfl rfl rfl rfl (mp_cons rfl rfl) (.cons (v := .int .u64 n) rfl rfl .nil) hpb ha1)).trans ?_
    refine (Seg.val (N := 13) (ops := AR3) (ρ := ((ρ1.put (some 8) sv).put (some 9) (.int .u64 n)).put (some 10) pb) (i := 3) (rest := [4]) (v := v2) (aw' := aw2) rfl rfl (fun d h => by cases h; decide) (fun c h => by cases h) (ov_app rfl rfl rfl rfl u28 sz24 by24 u28 rfl z24 rfl (by decide) (by decide) rfl rfl hA')).trans ?_
    refine (Seg.val (N := 13) (ρ := (((ρ1.put (some 8) sv).put (some 9) (.int .u64 n)).put (some 10) pb).put (some 11) v2) (ops := AR3) (i := 4) (rest := []) (v := undef) (aw' := aw3) rfl rfl (fun d h => by cases h) (fun c h => by cases h) (ov_st (p := .pointer (some ⟨b2, 0, none⟩)) (xv := v2) (cs := [v2]) rfl rfl rfl h2 rfl (cells_one hv2o) sz28 hq hw ho ha3)).trans ?_
    exact Seg.regionEnd.trans (Seg.one fun _ _ _ _ => stepR_inBlock)
theorem rounds77 {ρ : Env} {b0 o0 : Nat} {B : Blk} {vs : List Int} (h2 : ρ 2 = .pointer (some ⟨b2, 0, none⟩)) (hvs : vs.length < 2 ^ 29) (hc : ∀ j n, vs[j]? = some n → B.cells[o0 + j * 1]? = some (.int .u64 n)) : ∀ (n i : Nat) (aw : AW) (sv : Value) (L : List (Nat × Blk)), i + n = vs.length → SlP 24 1 sv i ((vs.take i).map (.int .u64 ·)) L → Hp aw0 own ro aw ((b2, ⟨[sv], 28, 0, true, 0⟩) :: (L ++ l)) → Here ro l b0 B →
    ∃ aw' sv' L', VlA prog 13 7 A8 A9 b0 o0 ρ n i aw aw' ∧ SlP 24 1 sv' vs.length (vs.map (.int .u64 ·)) L' ∧ Hp aw0 own ro aw' ((b2, ⟨[sv'], 28, 0, true, 0⟩) :: (L' ++ l))
  | 0, i, aw, sv, L, h, hp, M, hb => by
    obtain rfl : i = vs.length := by omega
    rw [List.take_length] at hp
    exact ⟨aw, sv, L, .done, hp, M⟩
  | n + 1, i, aw, sv, L, h, hp, M, hb => by
    have hx : vs[i]? = some vs[i] := List.getElem?_eq_getElem (by omega)
    obtain ⟨ρ1, ρ2, aw2, sv', L', k1, k2, hp', M'⟩ := round77 (ρ := ρ.put (some 7) (.int .u64 vs[i])) (n := vs[i]) (b2 := b2) rfl (by rw [Env.put_some]; exact h2) hp (by omega) M
    have e : ((vs.take i).map (Value.int .u64 ·)).take i ++ [.int .u64 vs[i]] = (vs.take (i + 1)).map (.int .u64 ·) := by
      rw [List.take_of_length_le (by rw [List.length_map, List.length_take]; omega), List.take_add_one, hx, List.map_append]; rfl
    rw [e] at hp'
    obtain ⟨aw', sv'', L'', q1, q2, q3⟩ := rounds77 h2 hvs hc n (i + 1) aw2 sv' L' (by omega) hp' M' hb
    have hB : In aw b0 B := by
      rcases hb with hb | hb
      · exact M.ir hb
      · exact M.im (.there (At.appL hb))
    exact ⟨aw', sv'', L'', .step (hB.get (cell_of (hc i _ hx))) k1 k2 q1, q2, q3⟩
theorem appendSeq_x {Q : Value → AW → Prop} {bx b0 o0 c : Nat} {B BX : Blk} {vs : List Int} (hvs : vs.length < 2 ^ 29) (hc : ∀ j n, vs[j]? = some n → B.cells[o0 + j * 1]? = some (.int .u64 n)) (hb : Here ro l b0 B) (hbx : At l bx BX) (hx0 : BX.cells[0]? = some (.slice (some ⟨b0, o0, none⟩) vs.length c))
    (M : Hp aw0 own ro aw l) (hQ : ∀ v L aw', SlP 24 1 v vs.length (vs.map (.int .u64 ·)) L → Hp aw0 own ro aw' (L ++ l) → Q v aw') :
    CallP prog 77 [.slice none 0 0, .func (.func 76) #[] #[.pointer (some ⟨bx, 0, none⟩)]] aw sh77 Q E := by
  refine callP_of func77 A0_is rfl (Nat.le_of_ble_eq_true rfl) ?_
  refine ago_seqE EA0 ?_
  refine ago_regE EA1 (l := [0, 1]) rfl ?_
  obtain ⟨p1, aw2, hp3, ha4, b2, hb2, M2⟩ : alc aw [.slice none 0 0] 28 0 fun p aw' => ∃ b, p = .pointer (some ⟨b, 0, none⟩) ∧ Hp aw0 own ro aw' ((b, ⟨[.slice none 0 0], 28, 0, true, 0⟩) :: l) := alc_x M fun b aw' M' => ⟨b, rfl, M'⟩
  refine lk (dt := some 2) (v := p1) AR0_N rfl rfl rfl (ov_box rfl rfl rfl (cells_one rfl) hp3 ha4) ?_
  refine lk (dt := some 4) AR0_N rfl rfl rfl (opv_assign rfl rfl rfl) ?_
  refine aops_nil ?_
  refine ago_seqE EA2 ?_
  refine ago_seqE EA3 ?_
  refine ago_regE EA5 (l := [0]) rfl ?_
  refine lk (dt := some 6) AR1_N rfl rfl rfl (opv_move rfl rfl rfl) ?_
  refine aops_nil ?_
  refine ago_blockE EA6 ?_
  rw [EA7]
  obtain ⟨aw3, sv, L, q1, q2, M3⟩ := rounds77 (ρ := (((((Env.init [.slice none 0 0, .func (.func 76) #[] #[.pointer (some ⟨bx, 0, none⟩)]]).put (some 2) p1).put (some 4) (.slice none 0 0)).put (some 6) (.func (.func 76) #[] #[.pointer (some ⟨bx, 0, none⟩)])))) (b2 := b2) hb2 hvs hc vs.length 0 aw2 (.slice none 0 0) [] (by omega) .nil M2 hb
  refine ago_valsA vals76 (el := 24) (bx := bx) (b0 := b0) (o0 := o0) (L := vs.length) (c := c) rfl rfl u28 sz24 u24 rfl ((M2.im (.there hbx)).get (cell_of hx0)) (by omega) (by decide) q1 ?_
  refine ago_inBlock ?_
  refine ago_seqE EA4 ?_
  refine ago_regE EA11 (l := [0, 1]) rfl ?_
  refine lk (dt := some 12) (v := sv) AR4_N rfl rfl rfl (ov_ldV rfl u28 rfl rfl (show (((((Env.init [.slice none 0 0, .func (.func 76) #[] #[.pointer (some ⟨bx, 0, none⟩)]]).put (some 2) p1).put (some 4) (.slice none 0 0)).put (some 6) (.func (.func 76) #[] #[.pointer (some ⟨bx, 0, none⟩)]))) 2 = _ from hb2) rfl ((M3.im .here).get .here)) ?_
  refine lk (dt := some 4) AR4_N rfl rfl rfl (opv_assign rfl rfl rfl) ?_
  refine aops_nil ?_
  obtain ⟨q, cc, hv⟩ := q2.val
  exact ago_retE EA12 (r := sv) (ares_1 rfl (oneT (by rw [hv]; rfl))) rfl (hQ sv L aw3 q2 (M3.drop .here))
end
end Go.Proofs.Try
