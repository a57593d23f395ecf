/- ImageNew: from the row's world. -/
import Derived.Test.YtacnonepegjooaaGreatDoorIA1
import Derived.Test.YtacnonepegjooaaGreatDoorIN2
import Derived.Test.YtacnonepegjooaaGreatDoorINA
import Derived.Test.YtacnonepegjooaaGreatDoorINB1
import Derived.Test.YtacnonepegjooaaGreatDoorINB2
import Derived.Test.YtacnonepegjooaaGreatDoorINB3
set_option linter.unusedVariables false
set_option linter.unusedSimpArgs false
set_option linter.unusedSectionVars false
set_option maxRecDepth 100000
namespace Go.Proofs.YtacnonepegjooaaGreatDoor
open Go Go.ChangeShapes Go.WideShapes Go.ChangeAt Go.RowKit Go.Am Go.Ri
theorem newOk : okTypes Tryz.prog [3] = true := by kernel_rfl
theorem und3 : Tryz.prog.underlying 3 = some (.int .i64) := by kernel_rfl
theorem rn_id (v : Value) : rnV (fun b => b) v = v := by unfold rnV; split <;> rfl
theorem okCells (u : Nat → TypeId) : ((PL u).all fun p => p.2.1.all (okV 8)) = true := by kernel_rfl
theorem PL_lt (u : Nat → TypeId) : ((PL u).all fun p => decide (p.1 < 8)) = true := by kernel_rfl
theorem orI [SymE] : OrOk Tryz.prog chkI 4 := fun M h => by
  letI : FT := ftOf {}
  haveI : FTok := ftOk (F := {}) ⟨(fun _ h => by cases h), (fun _ h => by cases h), (fun _ h => by cases h), (fun _ h => by cases h)⟩
  have hs := standL_spec (l := PLs) h
  obtain ⟨aw1, hr⟩ := awk_x (elsOf M)
  have hu : UnderR Tryz.prog.globals.size (fun b => b) (PM (elsOf M)).abs M.abs := by
    refine ⟨by rw [gsz]; exact Nat.le_refl 8, fun _ _ => rfl, fun b hb => ?_, fun b B hB => ?_, fun b => T.get_leaf b⟩
    · cases hB : (PM (elsOf M)).abs.m b with
      | none => rfl
      | some B =>
        obtain ⟨p, hp, rfl, _⟩ := memR_abs _ b B hB
        have := List.all_eq_true.1 (PL_lt (elsOf M)) p hp
        have hb' : 8 ≤ p.1 := hb
        simp at this
        omega
    · obtain ⟨p, hp, rfl, rfl⟩ := memR_abs _ b B hB
      obtain ⟨g1, g2⟩ := PLs_mem _ p hp
      obtain ⟨B, k1, k2⟩ := hs _ g1
      refine ⟨rfl, _, k2, ?_, rfl, fun _ => rfl, fun i v hi => ⟨?_, ?_⟩⟩
      · show B.elem = p.2.2.1
        rw [g2]
        simp only [elsOf, k1]
      · exact List.all_eq_true.1 (List.all_eq_true.1 (okCells (elsOf M)) p hp) v (List.mem_of_getElem? hi)
      · rw [rn_id]; exact hi
  exact acalls_ren hu (by rfl) (by rfl) hr
theorem nSmall (q : Nat) (h1 : 1 ≤ q) (h2 : q < 16) (u : Nat → TypeId) : runI {} [] 0 (.int .i64 (.ofNat q)) u = true := match q, h1, h2 with
  | 1, _, _ => n1 u
  | 2, _, _ => n2 u
  | 3, _, _ => n3 u
  | 4, _, _ => n4 u
  | 5, _, _ => n5 u
  | 6, _, _ => n6 u
  | 7, _, _ => n7 u
  | 8, _, _ => n8 u
  | 9, _, _ => n9 u
  | 10, _, _ => n10 u
  | 11, _, _ => n11 u
  | 12, _, _ => n12 u
  | 13, _, _ => n13 u
  | 14, _, _ => n14 u
  | 15, _, _ => n15 u
  | n + 16, _, h => absurd h (by omega)
section
variable {W : World}
theorem law_run (S : SymE) {F : Facts} (hF : @Facts.ok S F) {LS : List Value} {c : Nat} (hLS : LS ≠ [] → ∃ bs, LS.map (@den S) = bytesV bs ∧ S.E c = .int .u32 ((Oc.sum bs : Nat) : Int)) {sv v : Value} (hv : ∀ s : Inj, @VRs S s [sv] [v]) (hL : laidMetH Tryz.prog laidAll W)
    (hrun : ∀ u, runI F LS c sv u = true) : Calls Tryz.prog 3 #[v] W fun e w' => e = .returned (.bool true) ∧ Below W.heap.size W w' := by
  letI := S
  letI : FT := ftOf F
  haveI : FTok := ftOk hF
  obtain ⟨u, hr⟩ := relI hL
  rw [← gsz] at hr
  exact run_lawQ (O := O1 LS c) (fun C hC => orcl_spec orI (orSum_spec Tryz.sum_calls hLS hC)) hP hX0 hRB0 hmix hr (hv _) (hrun u)
theorem bV_den [SymE] (l : List Nat) : (bV l).map den = bV l := by
  induction l with
  | nil => rfl
  | cons a l ih =>
    show den (.int .u8 (.ofNat a)) :: (bV l).map den = .int .u8 (.ofNat a) :: bV l
    rw [ih]; rfl
theorem preV : bV preN = bytesV (preN.map UInt8.ofNat) := by kernel_rfl
theorem postV : bV postN = bytesV (postN.map UInt8.ofNat) := by kernel_rfl
def bsQ (m : List Nat) : List UInt8 := preN.map UInt8.ofNat ++ (m.map UInt8.ofNat ++ postN.map UInt8.ofNat)
theorem bytesV_app (a b : List UInt8) : bytesV (a ++ b) = bytesV a ++ bytesV b := by simp [bytesV]
theorem lsQ [SymE] {m : List Nat} {mid : List Value} (hm : mid.map den = bytesV (m.map UInt8.ofNat)) : (bV preN ++ (mid ++ bV postN)).map den = bytesV (bsQ m) := by
  rw [List.map_append, List.map_append, bV_den, bV_den, hm, preV, postV, bsQ, bytesV_app, bytesV_app]
theorem u8m (n : Nat) (h : n < 256) : Value.int .u8 (.ofNat n) = .int .u8 ((UInt8.ofNat n).toNat : Int) := by
  rw [UInt8.toNat_ofNat', Nat.mod_eq_of_lt h]; rfl
theorem new_x {a : Int} (h0 : -9223372036854775808 ≤ a) (h1 : a < 9223372036854775808) (hL : laidMetH Tryz.prog laidAll W) : Calls Tryz.prog 3 #[.int .i64 a] W fun e w' => e = .returned (.bool true) ∧ Below W.heap.size W w' := by
  by_cases hlow : a < 1
  · refine law_run (symOf [(.i64, a)]) (F := FQlow) ?_ (LS := []) (c := 0) (fun h => absurd rfl h) (sv := .map (some 0)) (by letI := symOf [(.i64, a)]; exact fun s => .cons (.sym 0) .nil) hL nLow
    refine @Facts.ok.mk (symOf [(.i64, a)]) FQlow (List.forall_mem_cons.2 ⟨?_, (fun _ h => by cases h)⟩) (fun _ h => by cases h) (fun _ h => by cases h) (fun _ h => by cases h)
    show some (Value.bool (decide (a < 1))) = some (.bool true)
    rw [decide_eq_true hlow]
  by_cases hhigh : 1048576 < a
  · refine law_run (symOf [(.i64, a)]) (F := FQhigh) ?_ (LS := []) (c := 0) (fun h => absurd rfl h) (sv := .map (some 0)) (by letI := symOf [(.i64, a)]; exact fun s => .cons (.sym 0) .nil) hL nHigh
    refine @Facts.ok.mk (symOf [(.i64, a)]) FQhigh (List.forall_mem_cons.2 ⟨?_, List.forall_mem_cons.2 ⟨?_, (fun _ h => by cases h)⟩⟩) (fun _ h => by cases h) (fun _ h => by cases h) (fun _ h => by cases h)
    · show some (Value.bool (decide (a < 1))) = some (.bool false)
      rw [decide_eq_false hlow]
    · show some (Value.bool (decide (1048576 < a))) = some (.bool true)
      rw [decide_eq_true hhigh]
  obtain ⟨q, rfl⟩ : ∃ q : Nat, a = Int.ofNat q := ⟨a.toNat, by simp only [Int.ofNat_eq_natCast]; omega⟩
  simp only [Int.ofNat_eq_natCast] at hlow hhigh
  have small : ∀ v, (∀ u, runI {} [] 0 (.int .i64 v) u = true) → Calls Tryz.prog 3 #[.int .i64 v] W fun e w' => e = .returned (.bool true) ∧ Below W.heap.size W w' := fun v h =>
    law_run (symOf []) (F := {}) (by letI := symOf []; exact ⟨(fun _ h => by cases h), (fun _ h => by cases h), (fun _ h => by cases h), (fun _ h => by cases h)⟩) (LS := []) (c := 0) (fun h => absurd rfl h) (by letI := symOf []; exact fun s => .cons (.int _ _) .nil) hL h
  by_cases h16 : q < 16
  · have hq1 : 1 ≤ q := by omega
    exact small _ (nSmall q hq1 h16)
  by_cases h256 : q < 256
  · let s := Oc.sum (bsQ [1, q % 256])
    refine law_run (symQ q s) (okQ1 (by omega) h256) (LS := LQ1) (c := 30) (fun _ => ⟨bsQ [1, q % 256], ?_, rfl⟩) (sv := .map (some 0)) (by letI := symQ q s; exact fun s' => .cons (.sym 0) .nil) hL nQ1
    exact @lsQ (symQ q s) [1, q % 256] [.int .u8 (.ofNat 1), .map (some 20)] (by
      show [Value.int .u8 (.ofNat 1), Value.int .u8 (.ofNat (q % 256))] = [Value.int .u8 ((UInt8.ofNat 1).toNat : Int), Value.int .u8 ((UInt8.ofNat (q % 256)).toNat : Int)]
      rw [← u8m 1 (by omega), ← u8m (q % 256) (by omega)])
  by_cases h65 : q < 65536
  · let s := Oc.sum (bsQ [2, q / 256 % 256, q % 256])
    refine law_run (symQ q s) (okQ2 (by omega) h65) (LS := LQ2) (c := 30) (fun _ => ⟨bsQ [2, q / 256 % 256, q % 256], ?_, rfl⟩) (sv := .map (some 0)) (by letI := symQ q s; exact fun s' => .cons (.sym 0) .nil) hL nQ2
    exact @lsQ (symQ q s) [2, q / 256 % 256, q % 256] [.int .u8 (.ofNat 2), .map (some 21), .map (some 20)] (by
      show [Value.int .u8 (.ofNat 2), Value.int .u8 (.ofNat (q / 256 % 256)), Value.int .u8 (.ofNat (q % 256))] = [Value.int .u8 ((UInt8.ofNat 2).toNat : Int), Value.int .u8 ((UInt8.ofNat (q / 256 % 256)).toNat : Int), Value.int .u8 ((UInt8.ofNat (q % 256)).toNat : Int)]
      rw [← u8m 2 (by omega), ← u8m (q / 256 % 256) (by omega), ← u8m (q % 256) (by omega)])
  · let s := Oc.sum (bsQ [3, q / 65536 % 256, q / 256 % 256, q % 256])
    refine law_run (symQ q s) (okQ3 (by omega) (by omega)) (LS := LQ3) (c := 30) (fun _ => ⟨bsQ [3, q / 65536 % 256, q / 256 % 256, q % 256], ?_, rfl⟩) (sv := .map (some 0)) (by letI := symQ q s; exact fun s' => .cons (.sym 0) .nil) hL nQ3
    exact @lsQ (symQ q s) [3, q / 65536 % 256, q / 256 % 256, q % 256] [.int .u8 (.ofNat 3), .map (some 22), .map (some 21), .map (some 20)] (by
      show [Value.int .u8 (.ofNat 3), Value.int .u8 (.ofNat (q / 65536 % 256)), Value.int .u8 (.ofNat (q / 256 % 256)), Value.int .u8 (.ofNat (q % 256))] = [Value.int .u8 ((UInt8.ofNat 3).toNat : Int), Value.int .u8 ((UInt8.ofNat (q / 65536 % 256)).toNat : Int), Value.int .u8 ((UInt8.ofNat (q / 256 % 256)).toNat : Int), Value.int .u8 ((UInt8.ofNat (q % 256)).toNat : Int)]
      rw [← u8m 3 (by omega), ← u8m (q / 65536 % 256) (by omega), ← u8m (q / 256 % 256) (by omega), ← u8m (q % 256) (by omega)])
theorem walkNew {H : Type} {enc : TypeId × Value → H} {w : World} {vs : List Value} {ds : List (DataW H)} {ps : List MemPlace} (hL : laidMetH Tryz.prog laidAll w) (hA : DataW.TrodAll enc Tryz.prog w 0 (fun _ => true) true [3] vs ds ps)
    (hw : (DataW.weightsEach Tryz.prog [3] ds).all (· ≤ reachBytes) = true) (hv : ∀ (j : Nat) t v, [3][j]? = some t → vs[j]? = some v → ∃ base, Value.okWide Tryz.prog w .any base t v) :
    Calls Tryz.prog 3 vs.toArray w fun e w' => e = .returned (.bool true) ∧ Below w.heap.size w w' := by
  letI : SymE := symOf []
  obtain ⟨s, aw, vs', ha, hvs⟩ := args_in newOk (by kernel_rfl) hA hw hv
  obtain ⟨v1, r, rfl, h1, ha⟩ := ha.cons
  obtain rfl := ha.nil
  obtain ⟨a, rfl, h0, h01⟩ := h1.int und3
  cases hvs with
  | cons e1 t =>
    cases t
    obtain rfl := e1.int_inv
    have hmax : IntKind.i64.max = 9223372036854775807 := by decide
    have hmin : IntKind.i64.min = -9223372036854775808 := by decide
    exact new_x (by omega) (by omega) hL
end
end Go.Proofs.YtacnonepegjooaaGreatDoor
