/- awake() in two parts: what the first hands over. -/
import Derived.Test.YtacnonepegjooaaGreatDoorIM0
set_option linter.unusedSectionVars false
set_option linter.unusedSimpArgs false
set_option linter.unusedVariables false
namespace Go.Proofs.YtacnonepegjooaaGreatDoor
open Go Go.Am Go.Ri
set_option maxRecDepth 1000000
def LBn : List Nat := [1, 6, 1, 4, 98, 111, 111, 108, 0, 1, 3, 105, 110, 116, 0, 1, 4, 108, 105, 115, 116, 1, 1, 1, 3, 114, 101, 102, 1, 1, 1, 6, 115, 116, 114, 105, 110, 103, 0, 1, 4, 117, 110, 105, 116, 0, 0, 1, 10, 1, 4, 102, 97, 105, 108, 1, 1, 1, 2, 45, 62, 0, 1, 2, 1, 6, 115, 116, 114, 105, 110, 103, 0, 0, 0, 1, 2, 0, 1, 4, 105, 116, 111, 97, 0, 1, 2, 45, 62, 0, 1, 2, 1, 3, 105, 110, 116, 0, 0, 1, 6, 115, 116, 114, 105, 110, 103, 0, 0, 1, 4, 109, 111, 118, 101, 0, 1, 2, 45, 62, 0, 1, 2, 1, 3, 105, 110, 116, 0, 0, 1, 4, 117, 110, 105, 116, 0, 0, 1, 3, 110, 111, 116, 0, 1, 2, 45, 62, 0, 1, 2, 1, 4, 98, 111, 111, 108, 0, 0, 1, 4, 98, 111, 111, 108, 0, 0, 1, 5, 112, 114, 105, 110, 116, 0, 1, 2, 45, 62, 0, 1, 2, 1, 6, 115, 116, 114, 105, 110, 103, 0, 0, 1, 4, 117, 110, 105, 116, 0, 0, 1, 3, 114, 101, 102, 1, 1, 1, 2, 45, 62, 0, 1, 2, 0, 1, 2, 0, 1, 3, 114, 101, 102, 0, 1, 1, 0, 1, 2, 0, 1, 4, 115, 105, 122, 101, 0, 1, 2, 45, 62, 0, 1, 2, 1, 6, 115, 116, 114, 105, 110, 103, 0, 0, 1, 3, 105, 110, 116, 0, 0, 1, 4, 116, 117, 114, 110, 0, 1, 2, 45, 62, 0, 1, 2, 1, 3, 105, 110, 116, 0, 0, 1, 4, 117, 110, 105, 116, 0, 0, 1, 1, 120, 0, 1, 3, 105, 110, 116, 0, 0, 1, 1, 102, 0, 1, 2, 45, 62, 0, 1, 2, 1, 3, 105, 110, 116, 0, 0, 1, 3, 105, 110, 116, 0, 0, 1, 3, 0, 1, 2, 0, 1, 12, 0, 0, 1, 8, 0, 0, 0, 0, 1, 4, 1, 5, 1, 16, 0, 0, 1, 2, 0, 0, 0, 1, 20, 1, 4, 0, 0, 1, 8, 0, 0, 0, 0, 1, 2, 1, 6, 1, 2, 0, 0, 1, 8, 0, 0, 0, 1, 10, 0, 1, 4, 1, 8, 1, 12, 1, 16, 1, 20, 1, 24, 1, 28, 1, 13, 1, 32, 2, 11, 184, 1, 18, 2, 1, 6, 1, 1, 2, 1, 6, 1, 3, 2, 1, 6, 1, 5, 2, 1, 6, 1, 7, 2, 1, 6, 1, 9, 2, 1, 6, 1, 11, 2, 1, 6, 1, 13, 2, 1, 6, 1, 15, 2, 1, 5, 1, 3, 27, 169, 246, 78]
noncomputable def LB : List Value := LBn.map fun b => .int .u8 (.ofNat b)
noncomputable def C0 : Caller := @callQ (ftOf {}) Tryz.prog X0 RB0 O0 tab tab2 60 60
def cellT : Value := .string ⟨⟨[108, 101, 116, 32, 120, 32, 61, 32, 54, 32, 59, 59, 32, 108, 101, 116, 32, 102, 32, 121, 32, 61, 32, 120, 32, 42, 32, 121]⟩⟩
noncomputable def PLs : List (Nat × List Value × Nat) := (PL (fun _ => 0)).map fun p => (p.1, p.2.1, p.2.2.2)
def w5 : Value → Option (Value × Value × Value × Value × Value)
  | .agg ⟨[.slice q0 n0 c0, .slice q1 n1 c1, .slice q2 n2 c2, .slice q3 n3 c3, .pointer q4]⟩ => some (.slice q0 n0 c0, .slice q1 n1 c1, .slice q2 n2 c2, .slice q3 n3 c3, .pointer q4)
  | _ => none
noncomputable def endA (x : Option (AEnd × Mem)) : Bool := match x with
  | some (.returned (.slice (some ⟨b, 0, none⟩) n c), M2) => (Nat.beq b 2190 && (Nat.beq n 455 && (Nat.beq c UNK && Nat.beq M2.next 2191))) && ((match M2.at 2190 with
    | some B => Nat.beq B.len 455 && (Nat.beq B.elem 5 && (Nat.beq B.esz 1 && Nat.beq B.fz 0))
    | none => false) && ((match M2.getN 2190 0 455 with
    | some l => vEq.lEq (vEq 2) l LB
    | none => false) && standL PLs M2))
  | _ => false
noncomputable def midA (x : Option (AEnd × Mem)) : Bool := match x with
  | some (.returned (.tuple ⟨[w, .bool true]⟩), M1) => (match w5 w with
    | some (a0, a1, a2, a3, a4) => endA (C0 6 [.agg ⟨[a0, a1, a2, a3, a4]⟩] (M1.alloc [a0, a1, a2, a3, a4] 31 0))
    | none => false)
  | _ => false
noncomputable def M00 (u : Nat → TypeId) : Mem := (PM u).alloc [cellT] 9 1
noncomputable def runA (u : Nat → TypeId) : Bool := midA (C0 12 [.int .i64 3000, .slice (some ⟨8, 0, none⟩) 1 1] (M00 u))
noncomputable def MB (u : Nat → TypeId) : Mem := memR 2191 ((2190, LB, 5, 1) :: PL u)
noncomputable def endB (x : Option (AEnd × Mem)) : Bool := match x with
  | some (.returned (.tuple ⟨[w, .string ⟨⟨s⟩⟩]⟩), _) => (match w5 w with
    | some _ => vEq 2 (.string ⟨⟨s⟩⟩) (.string ⟨⟨[48, 32, 32, 32, 48, 32, 56, 10, 52, 50]⟩⟩)
    | none => false)
  | _ => false
noncomputable def midB (x : Option (AEnd × Mem)) : Bool := match x with
  | some (.returned (.tuple ⟨[w, .int .i64 (.ofNat 0)]⟩), M1) => (match w5 w with
    | some (a0, a1, a2, .slice q3 n3 c3, a4) => Nat.beq n3 10 && endB (C0 13 [.agg ⟨[a0, a1, a2, .slice q3 n3 c3, a4]⟩, .string ⟨⟨[102, 32, 55]⟩⟩, .int .i64 9] (M1.alloc [a0, a1, a2, .slice q3 n3 c3, a4] 31 0))
    | _ => false)
  | _ => false
noncomputable def runB (u : Nat → TypeId) : Bool := midB (C0 7 [.slice (some ⟨2190, 0, none⟩) 455 UNK] (MB u))
end Go.Proofs.YtacnonepegjooaaGreatDoor
