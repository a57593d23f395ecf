/- Printed by a program of the prover: what the Go functions of this seat do, in steps. -/
import Derived.Test.YthfjjcfceilahaaGreatDoorPlA
import Derived.Test.YthfjjcfceilahaaGreatDoorPlB
import Derived.Test.YthfjjcfceilahaaGreatDoorPlC
import Derived.Test.YthfjjcfceilahaaGreatDoorPlD
import Derived.Test.YthfjjcfceilahaaGreatDoorPlE
import Derived.Test.YthfjjcfceilahaaGreatDoorPlF
import Derived.Test.YthfjjcfceilahaaGreatDoorPlG
import Derived.Test.YthfjjcfceilahaaGreatDoorPlH
import Derived.Test.YthfjjcfceilahaaGreatDoorPlI
import Derived.Test.YthfjjcfceilahaaGreatDoorPlJ
import Derived.Test.YthfjjcfceilahaaGreatDoorPlK
import Derived.Test.YthfjjcfceilahaaGreatDoorPlL
import Derived.Test.YthfjjcfceilahaaGreatDoorPlM
import Derived.Test.YthfjjcfceilahaaGreatDoorPlN
import Derived.Test.YthfjjcfceilahaaGreatDoorPlO
import Derived.Test.YthfjjcfceilahaaGreatDoorPlP
import Derived.Test.YthfjjcfceilahaaGreatDoorPK1
import Derived.Test.YthfjjcfceilahaaGreatDoorL3
namespace Go.Proofs.YthfjjcfceilahaaGreatDoor
open Go.ChangeShapes Go.WideShapes Go.ChangeAt Go.RowKit Go.Am Go.Ri
set_option linter.unusedVariables false
set_option linter.unusedSimpArgs false
theorem okFL {m n a r : Nat} (hm : m ≤ 255) (hn : n ≤ 255) (ha : m % 10 = a) (hr : n % 8 = r) : @Facts.ok (symOf [(.u8, .ofNat m), (.u8, .ofNat n), (.i64, fw .i64 (.ofNat m)), (.i64, fw .i64 (.ofNat n))]) (FL a r) :=
  @Facts.ok.mk (symOf [(.u8, .ofNat m), (.u8, .ofNat n), (.i64, fw .i64 (.ofNat m)), (.i64, fw .i64 (.ofNat n))]) (FL a r) (List.forall_mem_cons.2 ⟨remM hm (by decide) ha, List.forall_mem_cons.2 ⟨remM hn (by decide) hr, (fun _ h => by cases h)⟩⟩) (fun _ h => by cases h) (List.forall_mem_cons.2 ⟨rfl, List.forall_mem_cons.2 ⟨rfl, (fun _ h => by cases h)⟩⟩) (fun _ h => by cases h)
theorem lists {W : World} (hL : laidMetH Tryz.prog laidAll W) (m n : Nat) (hm : m ≤ 255) (hn : n ≤ 255) : Calls Tryz.prog 8 #[.int .u8 (.ofNat m), .int .u8 (.ofNat n)] W fun e w' => e = .returned (.bool true) ∧ Below W.heap.size W w' := by
  letI S : SymE := symOf [(.u8, .ofNat m), (.u8, .ofNat n), (.i64, fw .i64 (.ofNat m)), (.i64, fw .i64 (.ofNat n))]
  have hv : ∀ s : Inj, VRs s [.map (some 0), .map (some 1)] [.int .u8 (.ofNat m), .int .u8 (.ofNat n)] := fun s => .cons (.sym 0) (.cons (.sym 1) .nil)
  have key : ∀ a r, m % 10 = a → n % 8 = r → (∀ t u : Nat → TypeId, retB (@callRo (ftOf (FL a r)) Tryz.prog X0 RB0 chkP 10 tab 14 400 8 [.map (some 0), .map (some 1)] (PM t u)) = true) → Calls Tryz.prog 8 #[.int .u8 (.ofNat m), .int .u8 (.ofNat n)] W fun e w' => e = .returned (.bool true) ∧ Below W.heap.size W w' :=
    fun a r ha hr hrun => runP hL (okFL hm hn ha hr) hv hrun
  have hk : m % 10 < 10 := Nat.mod_lt m (by decide)
  have hl : n % 8 < 8 := Nat.mod_lt n (by decide)
  exact match hq : m % 10, hk with
    | 0, _ => (match hp : n % 8, hl with
      | 0, _ => key 0 0 hq hp pl0_0
      | 1, _ => key 0 1 hq hp pl0_1
      | 2, _ => key 0 2 hq hp pl0_2
      | 3, _ => key 0 3 hq hp pl0_3
      | 4, _ => key 0 4 hq hp pl0_4
      | 5, _ => key 0 5 hq hp pl0_5
      | 6, _ => key 0 6 hq hp pl0_6
      | 7, _ => key 0 7 hq hp pl0_7
      | r + 8, h => absurd h (by omega))
    | 1, _ => (match hp : n % 8, hl with
      | 0, _ => key 1 0 hq hp pl1_0
      | 1, _ => key 1 1 hq hp pl1_1
      | 2, _ => key 1 2 hq hp pl1_2
      | 3, _ => key 1 3 hq hp pl1_3
      | 4, _ => key 1 4 hq hp pl1_4
      | 5, _ => key 1 5 hq hp pl1_5
      | 6, _ => key 1 6 hq hp pl1_6
      | 7, _ => key 1 7 hq hp pl1_7
      | r + 8, h => absurd h (by omega))
    | 2, _ => (match hp : n % 8, hl with
      | 0, _ => key 2 0 hq hp pl2_0
      | 1, _ => key 2 1 hq hp pl2_1
      | 2, _ => key 2 2 hq hp pl2_2
      | 3, _ => key 2 3 hq hp pl2_3
      | 4, _ => key 2 4 hq hp pl2_4
      | 5, _ => key 2 5 hq hp pl2_5
      | 6, _ => key 2 6 hq hp pl2_6
      | 7, _ => key 2 7 hq hp pl2_7
      | r + 8, h => absurd h (by omega))
    | 3, _ => (match hp : n % 8, hl with
      | 0, _ => key 3 0 hq hp pl3_0
      | 1, _ => key 3 1 hq hp pl3_1
      | 2, _ => key 3 2 hq hp pl3_2
      | 3, _ => key 3 3 hq hp pl3_3
      | 4, _ => key 3 4 hq hp pl3_4
      | 5, _ => key 3 5 hq hp pl3_5
      | 6, _ => key 3 6 hq hp pl3_6
      | 7, _ => key 3 7 hq hp pl3_7
      | r + 8, h => absurd h (by omega))
    | 4, _ => (match hp : n % 8, hl with
      | 0, _ => key 4 0 hq hp pl4_0
      | 1, _ => key 4 1 hq hp pl4_1
      | 2, _ => key 4 2 hq hp pl4_2
      | 3, _ => key 4 3 hq hp pl4_3
      | 4, _ => key 4 4 hq hp pl4_4
      | 5, _ => key 4 5 hq hp pl4_5
      | 6, _ => key 4 6 hq hp pl4_6
      | 7, _ => key 4 7 hq hp pl4_7
      | r + 8, h => absurd h (by omega))
    | 5, _ => (match hp : n % 8, hl with
      | 0, _ => key 5 0 hq hp pl5_0
      | 1, _ => key 5 1 hq hp pl5_1
      | 2, _ => key 5 2 hq hp pl5_2
      | 3, _ => key 5 3 hq hp pl5_3
      | 4, _ => key 5 4 hq hp pl5_4
      | 5, _ => key 5 5 hq hp pl5_5
      | 6, _ => key 5 6 hq hp pl5_6
      | 7, _ => key 5 7 hq hp pl5_7
      | r + 8, h => absurd h (by omega))
    | 6, _ => (match hp : n % 8, hl with
      | 0, _ => key 6 0 hq hp pl6_0
      | 1, _ => key 6 1 hq hp pl6_1
      | 2, _ => key 6 2 hq hp pl6_2
      | 3, _ => key 6 3 hq hp pl6_3
      | 4, _ => key 6 4 hq hp pl6_4
      | 5, _ => key 6 5 hq hp pl6_5
      | 6, _ => key 6 6 hq hp pl6_6
      | 7, _ => key 6 7 hq hp pl6_7
      | r + 8, h => absurd h (by omega))
    | 7, _ => (match hp : n % 8, hl with
      | 0, _ => key 7 0 hq hp pl7_0
      | 1, _ => key 7 1 hq hp pl7_1
      | 2, _ => key 7 2 hq hp pl7_2
      | 3, _ => key 7 3 hq hp pl7_3
      | 4, _ => key 7 4 hq hp pl7_4
      | 5, _ => key 7 5 hq hp pl7_5
      | 6, _ => key 7 6 hq hp pl7_6
      | 7, _ => key 7 7 hq hp pl7_7
      | r + 8, h => absurd h (by omega))
    | 8, _ => (match hp : n % 8, hl with
      | 0, _ => key 8 0 hq hp pl8_0
      | 1, _ => key 8 1 hq hp pl8_1
      | 2, _ => key 8 2 hq hp pl8_2
      | 3, _ => key 8 3 hq hp pl8_3
      | 4, _ => key 8 4 hq hp pl8_4
      | 5, _ => key 8 5 hq hp pl8_5
      | 6, _ => key 8 6 hq hp pl8_6
      | 7, _ => key 8 7 hq hp pl8_7
      | r + 8, h => absurd h (by omega))
    | 9, _ => (match hp : n % 8, hl with
      | 0, _ => key 9 0 hq hp pl9_0
      | 1, _ => key 9 1 hq hp pl9_1
      | 2, _ => key 9 2 hq hp pl9_2
      | 3, _ => key 9 3 hq hp pl9_3
      | 4, _ => key 9 4 hq hp pl9_4
      | 5, _ => key 9 5 hq hp pl9_5
      | 6, _ => key 9 6 hq hp pl9_6
      | 7, _ => key 9 7 hq hp pl9_7
      | r + 8, h => absurd h (by omega))
    | a + 10, h => absurd h (by omega)
theorem walkLists {H : Type} {enc : TypeId × Value → H} {w : World} {vs : List Value} {ds : List (DataW H)} {ps : List MemPlace} (hL : laidMetH Tryz.prog laidAll w) (hA : DataW.TrodAll enc Tryz.prog w 0 (fun _ => true) true [5, 5] vs ds ps)
    (hw : (DataW.weightsEach Tryz.prog [5, 5] ds).all (· ≤ reachBytes) = true) (hv : ∀ (j : Nat) t v, [5, 5][j]? = some t → vs[j]? = some v → ∃ base, Value.okWide Tryz.prog w .any base t v) :
    Calls Tryz.prog 8 vs.toArray w fun e w' => e = .returned (.bool true) ∧ Below w.heap.size w w' := by
  letI : SymE := symOf []
  obtain ⟨s, aw, vs', ha, hvs⟩ := args_in plainOk (by kernel_rfl) hA hw hv
  obtain ⟨v1, r, rfl, h1, ha⟩ := ha.cons
  obtain ⟨v2, r, rfl, h2, ha⟩ := ha.cons
  obtain rfl := ha.nil
  obtain ⟨a, rfl, h0, h01⟩ := h1.int und5
  obtain ⟨b, rfl, k0, k01⟩ := h2.int und5
  cases hvs with
  | cons e1 t =>
    cases t with
    | cons e2 t =>
      cases t
      obtain rfl := e1.int_inv
      obtain rfl := e2.int_inv
      have hmax : IntKind.u8.max = 255 := by decide
      have hmin : IntKind.u8.min = 0 := by decide
      obtain ⟨m, rfl⟩ : ∃ m : Nat, a = Int.ofNat m := ⟨a.toNat, by simp only [Int.ofNat_eq_natCast]; omega⟩
      obtain ⟨n, rfl⟩ : ∃ n : Nat, b = Int.ofNat n := ⟨b.toNat, by simp only [Int.ofNat_eq_natCast]; omega⟩
      exact lists hL m n (by simp only [Int.ofNat_eq_natCast] at h01; omega) (by simp only [Int.ofNat_eq_natCast] at k01; omega)
end Go.Proofs.YthfjjcfceilahaaGreatDoor
