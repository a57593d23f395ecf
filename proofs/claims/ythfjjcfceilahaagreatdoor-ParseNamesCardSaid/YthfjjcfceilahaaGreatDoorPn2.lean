/- ParseNames: what a run of Cell must give. -/
import Derived.Test.YthfjjcfceilahaaGreatDoorPnH
import Derived.Test.YthfjjcfceilahaaGreatDoorQM0
import Derived.Test.YthfjjcfceilahaaGreatDoorPn1
set_option linter.unusedSectionVars false
set_option linter.unusedVariables false
set_option linter.unusedSimpArgs false
namespace Go.Proofs.YthfjjcfceilahaaGreatDoor
open Go Go.Am Go.Ri
set_option maxRecDepth 1000000
noncomputable def NSn (n : Nat) : List Value := (List.range n).map fun i => .map (some (nameS i))
noncomputable def chkTw : Option (AEnd × Mem) → Bool
  | some (.returned (.tuple ⟨[.slice none 0 0, .int .i64 (.ofNat a), .int .i64 (.ofNat e)]⟩), _) => Nat.beq a 13 && Nat.beq e 7
  | _ => false
noncomputable def wholeK (M : Mem) (b : Nat) : Option (List Value) := match M.at b with
  | some B => (match M.getN b 0 B.len with
    | some l => bif (B.rw && (Nat.ble 16 b && Nat.blt b M.next)) && l.all (okK 16) then some l else none
    | none => none)
  | none => none
def kidsL : List Nat → List Value
  | [] => []
  | i :: r => .int .u8 (.ofNat 2) :: .map (some (nameS i)) :: .int .i64 (.ofNat 0) :: .slice none 0 0 :: kidsL r
noncomputable def chkK3 (n : Nat) (M : Mem) : List Value → Bool
  | .int .u8 (.ofNat k) :: .string _ :: .int .i64 _ :: .slice (some ⟨b3, 0, none⟩) n3 _ :: _ => (Nat.beq n3 n && !(Nat.beq k 2)) && (match wholeK M b3 with
    | some l => vEq.lEq (vEq 2) l (kidsL (List.range n))
    | none => false)
  | _ => false
noncomputable def chkK2 (n : Nat) (M : Mem) : List Value → Bool
  | [_, _, _, _, _, _, _, .slice (some ⟨b2, 0, none⟩) k2 _, _, _, _] => Nat.blt 0 k2 && (match wholeK M b2 with
    | some l => chkK3 n M l
    | none => false)
  | _ => false
noncomputable def chkK (n : Nat) : Option (AEnd × Mem) → Bool
  | some (.returned (.tuple ⟨[.slice (some ⟨b1, 0, none⟩) k1 _, .int .i64 (.ofNat a), .int .i64 (.ofNat e)]⟩), M) => (Nat.beq k1 1 && (Nat.beq a 0 && Nat.beq e 0)) && (match wholeK M b1 with
    | some l => chkK2 n M l
    | none => false)
  | _ => false
noncomputable def runN (w : Bool) (n : Nat) (t u : Nat → TypeId) : Option (AEnd × Mem) := @callPl (ftT (tplN n) (3 * n + 18)) Tryz.prog X0 RB0 (orPat w (NSn n)) tab tab2 14 60 11 [.map (some (3 * n + 18))] (PM t u)
end Go.Proofs.YthfjjcfceilahaaGreatDoor
