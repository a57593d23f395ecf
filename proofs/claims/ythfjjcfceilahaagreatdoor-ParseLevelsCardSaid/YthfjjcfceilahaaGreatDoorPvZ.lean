/- Printed by a program of the prover: what the Go functions of this seat do, in steps. -/
import Derived.Test.YthfjjcfceilahaaGreatDoorPvA
import Derived.Test.YthfjjcfceilahaaGreatDoorPvB
import Derived.Test.YthfjjcfceilahaaGreatDoorPvC
import Derived.Test.YthfjjcfceilahaaGreatDoorPvD
import Derived.Test.YthfjjcfceilahaaGreatDoorPvE
import Derived.Test.YthfjjcfceilahaaGreatDoorPvF
import Derived.Test.YthfjjcfceilahaaGreatDoorPvG
import Derived.Test.YthfjjcfceilahaaGreatDoorPvH
import Derived.Test.YthfjjcfceilahaaGreatDoorPvI
import Derived.Test.YthfjjcfceilahaaGreatDoorPvJ
import Derived.Test.YthfjjcfceilahaaGreatDoorPvK
import Derived.Test.YthfjjcfceilahaaGreatDoorPvL
import Derived.Test.YthfjjcfceilahaaGreatDoorPvM
import Derived.Test.YthfjjcfceilahaaGreatDoorPvN
import Derived.Test.YthfjjcfceilahaaGreatDoorPK4
import Derived.Test.YthfjjcfceilahaaGreatDoorL4
namespace Go.Proofs.YthfjjcfceilahaaGreatDoor
open Go.ChangeShapes Go.WideShapes Go.ChangeAt Go.RowKit Go.Am Go.Ri
set_option linter.unusedVariables false
set_option linter.unusedSimpArgs false
theorem okFV {m n a r : Nat} (hm : m ≤ 255) (hn : n ≤ 255) (ha : m % 14 = a) (hr : n % 14 = r) : @Facts.ok (symOf [(.u8, .ofNat m), (.u8, .ofNat n), (.i64, fw .i64 (.ofNat m)), (.i64, fw .i64 (.ofNat n))]) (FV a r) :=
  @Facts.ok.mk (symOf [(.u8, .ofNat m), (.u8, .ofNat n), (.i64, fw .i64 (.ofNat m)), (.i64, fw .i64 (.ofNat n))]) (FV a r) (List.forall_mem_cons.2 ⟨remM hm (by decide) ha, List.forall_mem_cons.2 ⟨remM hn (by decide) hr, (fun _ h => by cases h)⟩⟩) (fun _ h => by cases h) (List.forall_mem_cons.2 ⟨rfl, List.forall_mem_cons.2 ⟨rfl, (fun _ h => by cases h)⟩⟩) (fun _ h => by cases h)
theorem levels {W : World} (hL : laidMetH Tryz.prog laidAll W) (m n : Nat) (hm : m ≤ 255) (hn : n ≤ 255) : Calls Tryz.prog 4 #[.int .u8 (.ofNat m), .int .u8 (.ofNat n)] W fun e w' => e = .returned (.bool true) ∧ Below W.heap.size W w' := by
  letI S : SymE := symOf [(.u8, .ofNat m), (.u8, .ofNat n), (.i64, fw .i64 (.ofNat m)), (.i64, fw .i64 (.ofNat n))]
  have hv : ∀ s : Inj, VRs s [.map (some 0), .map (some 1)] [.int .u8 (.ofNat m), .int .u8 (.ofNat n)] := fun s => .cons (.sym 0) (.cons (.sym 1) .nil)
  have key : ∀ a r, m % 14 = a → n % 14 = r → (∀ t u : Nat → TypeId, retB (@callV (ftOf (FV a r)) Tryz.prog X0 RB0 VB0 O0 tab tab2 14 400 4 [.map (some 0), .map (some 1)] (PM t u)) = true) → Calls Tryz.prog 4 #[.int .u8 (.ofNat m), .int .u8 (.ofNat n)] W fun e w' => e = .returned (.bool true) ∧ Below W.heap.size W w' :=
    fun a r ha hr hrun => runPV hL (okFV hm hn ha hr) hv hrun
  have hk : m % 14 < 14 := Nat.mod_lt m (by decide)
  have hl : n % 14 < 14 := Nat.mod_lt n (by decide)
  exact match hq : m % 14, hk with
    | 0, _ => (match hp : n % 14, hl with
      | 0, _ => key 0 0 hq hp pv0_0
      | 1, _ => key 0 1 hq hp pv0_1
      | 2, _ => key 0 2 hq hp pv0_2
      | 3, _ => key 0 3 hq hp pv0_3
      | 4, _ => key 0 4 hq hp pv0_4
      | 5, _ => key 0 5 hq hp pv0_5
      | 6, _ => key 0 6 hq hp pv0_6
      | 7, _ => key 0 7 hq hp pv0_7
      | 8, _ => key 0 8 hq hp pv0_8
      | 9, _ => key 0 9 hq hp pv0_9
      | 10, _ => key 0 10 hq hp pv0_10
      | 11, _ => key 0 11 hq hp pv0_11
      | 12, _ => key 0 12 hq hp pv0_12
      | 13, _ => key 0 13 hq hp pv0_13
      | r + 14, h => absurd h (by omega))
    | 1, _ => (match hp : n % 14, hl with
      | 0, _ => key 1 0 hq hp pv1_0
      | 1, _ => key 1 1 hq hp pv1_1
      | 2, _ => key 1 2 hq hp pv1_2
      | 3, _ => key 1 3 hq hp pv1_3
      | 4, _ => key 1 4 hq hp pv1_4
      | 5, _ => key 1 5 hq hp pv1_5
      | 6, _ => key 1 6 hq hp pv1_6
      | 7, _ => key 1 7 hq hp pv1_7
      | 8, _ => key 1 8 hq hp pv1_8
      | 9, _ => key 1 9 hq hp pv1_9
      | 10, _ => key 1 10 hq hp pv1_10
      | 11, _ => key 1 11 hq hp pv1_11
      | 12, _ => key 1 12 hq hp pv1_12
      | 13, _ => key 1 13 hq hp pv1_13
      | r + 14, h => absurd h (by omega))
    | 2, _ => (match hp : n % 14, hl with
      | 0, _ => key 2 0 hq hp pv2_0
      | 1, _ => key 2 1 hq hp pv2_1
      | 2, _ => key 2 2 hq hp pv2_2
      | 3, _ => key 2 3 hq hp pv2_3
      | 4, _ => key 2 4 hq hp pv2_4
      | 5, _ => key 2 5 hq hp pv2_5
      | 6, _ => key 2 6 hq hp pv2_6
      | 7, _ => key 2 7 hq hp pv2_7
      | 8, _ => key 2 8 hq hp pv2_8
      | 9, _ => key 2 9 hq hp pv2_9
      | 10, _ => key 2 10 hq hp pv2_10
      | 11, _ => key 2 11 hq hp pv2_11
      | 12, _ => key 2 12 hq hp pv2_12
      | 13, _ => key 2 13 hq hp pv2_13
      | r + 14, h => absurd h (by omega))
    | 3, _ => (match hp : n % 14, hl with
      | 0, _ => key 3 0 hq hp pv3_0
      | 1, _ => key 3 1 hq hp pv3_1
      | 2, _ => key 3 2 hq hp pv3_2
      | 3, _ => key 3 3 hq hp pv3_3
      | 4, _ => key 3 4 hq hp pv3_4
      | 5, _ => key 3 5 hq hp pv3_5
      | 6, _ => key 3 6 hq hp pv3_6
      | 7, _ => key 3 7 hq hp pv3_7
      | 8, _ => key 3 8 hq hp pv3_8
      | 9, _ => key 3 9 hq hp pv3_9
      | 10, _ => key 3 10 hq hp pv3_10
      | 11, _ => key 3 11 hq hp pv3_11
      | 12, _ => key 3 12 hq hp pv3_12
      | 13, _ => key 3 13 hq hp pv3_13
      | r + 14, h => absurd h (by omega))
    | 4, _ => (match hp : n % 14, hl with
      | 0, _ => key 4 0 hq hp pv4_0
      | 1, _ => key 4 1 hq hp pv4_1
      | 2, _ => key 4 2 hq hp pv4_2
      | 3, _ => key 4 3 hq hp pv4_3
      | 4, _ => key 4 4 hq hp pv4_4
      | 5, _ => key 4 5 hq hp pv4_5
      | 6, _ => key 4 6 hq hp pv4_6
      | 7, _ => key 4 7 hq hp pv4_7
      | 8, _ => key 4 8 hq hp pv4_8
      | 9, _ => key 4 9 hq hp pv4_9
      | 10, _ => key 4 10 hq hp pv4_10
      | 11, _ => key 4 11 hq hp pv4_11
      | 12, _ => key 4 12 hq hp pv4_12
      | 13, _ => key 4 13 hq hp pv4_13
      | r + 14, h => absurd h (by omega))
    | 5, _ => (match hp : n % 14, hl with
      | 0, _ => key 5 0 hq hp pv5_0
      | 1, _ => key 5 1 hq hp pv5_1
      | 2, _ => key 5 2 hq hp pv5_2
      | 3, _ => key 5 3 hq hp pv5_3
      | 4, _ => key 5 4 hq hp pv5_4
      | 5, _ => key 5 5 hq hp pv5_5
      | 6, _ => key 5 6 hq hp pv5_6
      | 7, _ => key 5 7 hq hp pv5_7
      | 8, _ => key 5 8 hq hp pv5_8
      | 9, _ => key 5 9 hq hp pv5_9
      | 10, _ => key 5 10 hq hp pv5_10
      | 11, _ => key 5 11 hq hp pv5_11
      | 12, _ => key 5 12 hq hp pv5_12
      | 13, _ => key 5 13 hq hp pv5_13
      | r + 14, h => absurd h (by omega))
    | 6, _ => (match hp : n % 14, hl with
      | 0, _ => key 6 0 hq hp pv6_0
      | 1, _ => key 6 1 hq hp pv6_1
      | 2, _ => key 6 2 hq hp pv6_2
      | 3, _ => key 6 3 hq hp pv6_3
      | 4, _ => key 6 4 hq hp pv6_4
      | 5, _ => key 6 5 hq hp pv6_5
      | 6, _ => key 6 6 hq hp pv6_6
      | 7, _ => key 6 7 hq hp pv6_7
      | 8, _ => key 6 8 hq hp pv6_8
      | 9, _ => key 6 9 hq hp pv6_9
      | 10, _ => key 6 10 hq hp pv6_10
      | 11, _ => key 6 11 hq hp pv6_11
      | 12, _ => key 6 12 hq hp pv6_12
      | 13, _ => key 6 13 hq hp pv6_13
      | r + 14, h => absurd h (by omega))
    | 7, _ => (match hp : n % 14, hl with
      | 0, _ => key 7 0 hq hp pv7_0
      | 1, _ => key 7 1 hq hp pv7_1
      | 2, _ => key 7 2 hq hp pv7_2
      | 3, _ => key 7 3 hq hp pv7_3
      | 4, _ => key 7 4 hq hp pv7_4
      | 5, _ => key 7 5 hq hp pv7_5
      | 6, _ => key 7 6 hq hp pv7_6
      | 7, _ => key 7 7 hq hp pv7_7
      | 8, _ => key 7 8 hq hp pv7_8
      | 9, _ => key 7 9 hq hp pv7_9
      | 10, _ => key 7 10 hq hp pv7_10
      | 11, _ => key 7 11 hq hp pv7_11
      | 12, _ => key 7 12 hq hp pv7_12
      | 13, _ => key 7 13 hq hp pv7_13
      | r + 14, h => absurd h (by omega))
    | 8, _ => (match hp : n % 14, hl with
      | 0, _ => key 8 0 hq hp pv8_0
      | 1, _ => key 8 1 hq hp pv8_1
      | 2, _ => key 8 2 hq hp pv8_2
      | 3, _ => key 8 3 hq hp pv8_3
      | 4, _ => key 8 4 hq hp pv8_4
      | 5, _ => key 8 5 hq hp pv8_5
      | 6, _ => key 8 6 hq hp pv8_6
      | 7, _ => key 8 7 hq hp pv8_7
      | 8, _ => key 8 8 hq hp pv8_8
      | 9, _ => key 8 9 hq hp pv8_9
      | 10, _ => key 8 10 hq hp pv8_10
      | 11, _ => key 8 11 hq hp pv8_11
      | 12, _ => key 8 12 hq hp pv8_12
      | 13, _ => key 8 13 hq hp pv8_13
      | r + 14, h => absurd h (by omega))
    | 9, _ => (match hp : n % 14, hl with
      | 0, _ => key 9 0 hq hp pv9_0
      | 1, _ => key 9 1 hq hp pv9_1
      | 2, _ => key 9 2 hq hp pv9_2
      | 3, _ => key 9 3 hq hp pv9_3
      | 4, _ => key 9 4 hq hp pv9_4
      | 5, _ => key 9 5 hq hp pv9_5
      | 6, _ => key 9 6 hq hp pv9_6
      | 7, _ => key 9 7 hq hp pv9_7
      | 8, _ => key 9 8 hq hp pv9_8
      | 9, _ => key 9 9 hq hp pv9_9
      | 10, _ => key 9 10 hq hp pv9_10
      | 11, _ => key 9 11 hq hp pv9_11
      | 12, _ => key 9 12 hq hp pv9_12
      | 13, _ => key 9 13 hq hp pv9_13
      | r + 14, h => absurd h (by omega))
    | 10, _ => (match hp : n % 14, hl with
      | 0, _ => key 10 0 hq hp pv10_0
      | 1, _ => key 10 1 hq hp pv10_1
      | 2, _ => key 10 2 hq hp pv10_2
      | 3, _ => key 10 3 hq hp pv10_3
      | 4, _ => key 10 4 hq hp pv10_4
      | 5, _ => key 10 5 hq hp pv10_5
      | 6, _ => key 10 6 hq hp pv10_6
      | 7, _ => key 10 7 hq hp pv10_7
      | 8, _ => key 10 8 hq hp pv10_8
      | 9, _ => key 10 9 hq hp pv10_9
      | 10, _ => key 10 10 hq hp pv10_10
      | 11, _ => key 10 11 hq hp pv10_11
      | 12, _ => key 10 12 hq hp pv10_12
      | 13, _ => key 10 13 hq hp pv10_13
      | r + 14, h => absurd h (by omega))
    | 11, _ => (match hp : n % 14, hl with
      | 0, _ => key 11 0 hq hp pv11_0
      | 1, _ => key 11 1 hq hp pv11_1
      | 2, _ => key 11 2 hq hp pv11_2
      | 3, _ => key 11 3 hq hp pv11_3
      | 4, _ => key 11 4 hq hp pv11_4
      | 5, _ => key 11 5 hq hp pv11_5
      | 6, _ => key 11 6 hq hp pv11_6
      | 7, _ => key 11 7 hq hp pv11_7
      | 8, _ => key 11 8 hq hp pv11_8
      | 9, _ => key 11 9 hq hp pv11_9
      | 10, _ => key 11 10 hq hp pv11_10
      | 11, _ => key 11 11 hq hp pv11_11
      | 12, _ => key 11 12 hq hp pv11_12
      | 13, _ => key 11 13 hq hp pv11_13
      | r + 14, h => absurd h (by omega))
    | 12, _ => (match hp : n % 14, hl with
      | 0, _ => key 12 0 hq hp pv12_0
      | 1, _ => key 12 1 hq hp pv12_1
      | 2, _ => key 12 2 hq hp pv12_2
      | 3, _ => key 12 3 hq hp pv12_3
      | 4, _ => key 12 4 hq hp pv12_4
      | 5, _ => key 12 5 hq hp pv12_5
      | 6, _ => key 12 6 hq hp pv12_6
      | 7, _ => key 12 7 hq hp pv12_7
      | 8, _ => key 12 8 hq hp pv12_8
      | 9, _ => key 12 9 hq hp pv12_9
      | 10, _ => key 12 10 hq hp pv12_10
      | 11, _ => key 12 11 hq hp pv12_11
      | 12, _ => key 12 12 hq hp pv12_12
      | 13, _ => key 12 13 hq hp pv12_13
      | r + 14, h => absurd h (by omega))
    | 13, _ => (match hp : n % 14, hl with
      | 0, _ => key 13 0 hq hp pv13_0
      | 1, _ => key 13 1 hq hp pv13_1
      | 2, _ => key 13 2 hq hp pv13_2
      | 3, _ => key 13 3 hq hp pv13_3
      | 4, _ => key 13 4 hq hp pv13_4
      | 5, _ => key 13 5 hq hp pv13_5
      | 6, _ => key 13 6 hq hp pv13_6
      | 7, _ => key 13 7 hq hp pv13_7
      | 8, _ => key 13 8 hq hp pv13_8
      | 9, _ => key 13 9 hq hp pv13_9
      | 10, _ => key 13 10 hq hp pv13_10
      | 11, _ => key 13 11 hq hp pv13_11
      | 12, _ => key 13 12 hq hp pv13_12
      | 13, _ => key 13 13 hq hp pv13_13
      | r + 14, h => absurd h (by omega))
    | a + 14, h => absurd h (by omega)
theorem walkLevels {H : Type} {enc : TypeId × Value → H} {w : World} {vs : List Value} {ds : List (DataW H)} {ps : List MemPlace} (hL : laidMetH Tryz.prog laidAll w) (hA : DataW.TrodAll enc Tryz.prog w 0 (fun _ => true) true [5, 5] vs ds ps)
    (hw : (DataW.weightsEach Tryz.prog [5, 5] ds).all (· ≤ reachBytes) = true) (hv : ∀ (j : Nat) t v, [5, 5][j]? = some t → vs[j]? = some v → ∃ base, Value.okWide Tryz.prog w .any base t v) :
    Calls Tryz.prog 4 vs.toArray w fun e w' => e = .returned (.bool true) ∧ Below w.heap.size w w' := by
  letI : SymE := symOf []
  obtain ⟨s, aw, vs', ha, hvs⟩ := args_in plainOk (by kernel_rfl) hA hw hv
  obtain ⟨v1, r, rfl, h1, ha⟩ := ha.cons
  obtain ⟨v2, r, rfl, h2, ha⟩ := ha.cons
  obtain rfl := ha.nil
  obtain ⟨a, rfl, h0, h01⟩ := h1.int und5
  obtain ⟨b, rfl, k0, k01⟩ := h2.int und5
  cases hvs with
  | cons e1 t =>
    cases t with
    | cons e2 t =>
      cases t
      obtain rfl := e1.int_inv
      obtain rfl := e2.int_inv
      have hmax : IntKind.u8.max = 255 := by decide
      have hmin : IntKind.u8.min = 0 := by decide
      obtain ⟨m, rfl⟩ : ∃ m : Nat, a = Int.ofNat m := ⟨a.toNat, by simp only [Int.ofNat_eq_natCast]; omega⟩
      obtain ⟨n, rfl⟩ : ∃ n : Nat, b = Int.ofNat n := ⟨b.toNat, by simp only [Int.ofNat_eq_natCast]; omega⟩
      exact levels hL m n (by simp only [Int.ofNat_eq_natCast] at h01; omega) (by simp only [Int.ofNat_eq_natCast] at k01; omega)
end Go.Proofs.YthfjjcfceilahaaGreatDoor
