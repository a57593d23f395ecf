/- Printed by a program of the prover: what the Go functions of this seat do, in steps. -/
import Derived.Test.YthfjjcfceilahaaGreatDoorPdA
import Derived.Test.YthfjjcfceilahaaGreatDoorPdB
import Derived.Test.YthfjjcfceilahaaGreatDoorPdC
import Derived.Test.YthfjjcfceilahaaGreatDoorPdD
import Derived.Test.YthfjjcfceilahaaGreatDoorPdE
import Derived.Test.YthfjjcfceilahaaGreatDoorPdF
import Derived.Test.YthfjjcfceilahaaGreatDoorPdG
import Derived.Test.YthfjjcfceilahaaGreatDoorPdH
import Derived.Test.YthfjjcfceilahaaGreatDoorPK1
import Derived.Test.YthfjjcfceilahaaGreatDoorL3
namespace Go.Proofs.YthfjjcfceilahaaGreatDoor
open Go.ChangeShapes Go.WideShapes Go.ChangeAt Go.RowKit Go.Am Go.Ri
set_option linter.unusedVariables false
set_option linter.unusedSimpArgs false
theorem okFD {m k : Nat} (hm : m ≤ 255) (hk : m % 40 = k) : @Facts.ok (symOf [(.u8, .ofNat m), (.i64, fw .i64 (.ofNat m))]) (FD k) :=
  @Facts.ok.mk (symOf [(.u8, .ofNat m), (.i64, fw .i64 (.ofNat m))]) (FD k) (List.forall_mem_cons.2 ⟨remM hm (by decide) hk, (fun _ h => by cases h)⟩) (fun _ h => by cases h) (List.forall_mem_cons.2 ⟨rfl, (fun _ h => by cases h)⟩) (fun _ h => by cases h)
theorem deep {W : World} (hL : laidMetH Tryz.prog laidAll W) (m : Nat) (hm : m ≤ 255) : Calls Tryz.prog 5 #[.int .u8 (.ofNat m)] W fun e w' => e = .returned (.bool true) ∧ Below W.heap.size W w' := by
  letI S : SymE := symOf [(.u8, .ofNat m), (.i64, fw .i64 (.ofNat m))]
  have hv : ∀ s : Inj, VRs s [.map (some 0)] [.int .u8 (.ofNat m)] := fun s => .cons (.sym 0) .nil
  have key : ∀ k, m % 40 = k → (∀ t u : Nat → TypeId, retB (@callRo (ftOf (FD k)) Tryz.prog X0 RB0 chkP 10 tab 14 400 5 [.map (some 0)] (PM t u)) = true) → Calls Tryz.prog 5 #[.int .u8 (.ofNat m)] W fun e w' => e = .returned (.bool true) ∧ Below W.heap.size W w' :=
    fun k hq hr => runP hL (okFD hm hq) hv hr
  have hk : m % 40 < 40 := Nat.mod_lt m (by decide)
  exact match hq : m % 40, hk with
    | 0, _ => key 0 hq pd0
    | 1, _ => key 1 hq pd1
    | 2, _ => key 2 hq pd2
    | 3, _ => key 3 hq pd3
    | 4, _ => key 4 hq pd4
    | 5, _ => key 5 hq pd5
    | 6, _ => key 6 hq pd6
    | 7, _ => key 7 hq pd7
    | 8, _ => key 8 hq pd8
    | 9, _ => key 9 hq pd9
    | 10, _ => key 10 hq pd10
    | 11, _ => key 11 hq pd11
    | 12, _ => key 12 hq pd12
    | 13, _ => key 13 hq pd13
    | 14, _ => key 14 hq pd14
    | 15, _ => key 15 hq pd15
    | 16, _ => key 16 hq pd16
    | 17, _ => key 17 hq pd17
    | 18, _ => key 18 hq pd18
    | 19, _ => key 19 hq pd19
    | 20, _ => key 20 hq pd20
    | 21, _ => key 21 hq pd21
    | 22, _ => key 22 hq pd22
    | 23, _ => key 23 hq pd23
    | 24, _ => key 24 hq pd24
    | 25, _ => key 25 hq pd25
    | 26, _ => key 26 hq pd26
    | 27, _ => key 27 hq pd27
    | 28, _ => key 28 hq pd28
    | 29, _ => key 29 hq pd29
    | 30, _ => key 30 hq pd30
    | 31, _ => key 31 hq pd31
    | 32, _ => key 32 hq pd32
    | 33, _ => key 33 hq pd33
    | 34, _ => key 34 hq pd34
    | 35, _ => key 35 hq pd35
    | 36, _ => key 36 hq pd36
    | 37, _ => key 37 hq pd37
    | 38, _ => key 38 hq pd38
    | 39, _ => key 39 hq pd39
    | k + 40, h => absurd h (by omega)
theorem walkDeep {H : Type} {enc : TypeId × Value → H} {w : World} {vs : List Value} {ds : List (DataW H)} {ps : List MemPlace} (hL : laidMetH Tryz.prog laidAll w) (hA : DataW.TrodAll enc Tryz.prog w 0 (fun _ => true) true [5] vs ds ps)
    (hw : (DataW.weightsEach Tryz.prog [5] ds).all (· ≤ reachBytes) = true) (hv : ∀ (j : Nat) t v, [5][j]? = some t → vs[j]? = some v → ∃ base, Value.okWide Tryz.prog w .any base t v) :
    Calls Tryz.prog 5 vs.toArray w fun e w' => e = .returned (.bool true) ∧ Below w.heap.size w w' := by
  letI : SymE := symOf []
  obtain ⟨s, aw, vs', ha, hvs⟩ := args_in plainOk (by kernel_rfl) hA hw hv
  obtain ⟨v1, r, rfl, h1, ha⟩ := ha.cons
  obtain rfl := ha.nil
  obtain ⟨a, rfl, h0, h01⟩ := h1.int und5
  cases hvs with
  | cons e1 t =>
    cases t
    obtain rfl := e1.int_inv
    have hmax : IntKind.u8.max = 255 := by decide
    have hmin : IntKind.u8.min = 0 := by decide
    obtain ⟨m, rfl⟩ : ∃ m : Nat, a = Int.ofNat m := ⟨a.toNat, by simp only [Int.ofNat_eq_natCast]; omega⟩
    exact deep hL m (by simp only [Int.ofNat_eq_natCast] at h01; omega)
end Go.Proofs.YthfjjcfceilahaaGreatDoor
