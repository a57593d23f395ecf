/- Printed by a program of the prover: what the Go functions of this seat do, in steps. -/
import Derived.Test.YthfjjcfceilahaaGreatDoorPM0
import Derived.Test.YthfjjcfceilahaaGreatDoorL4
namespace Go.Proofs.YthfjjcfceilahaaGreatDoor
open Go Go.Am Go.Ri
set_option maxRecDepth 1000000
noncomputable def PLs : List (Nat × List Value × Nat) := (PL (fun _ => 0) (fun _ => 0)).map fun p => (p.1, p.2.1, p.2.2.2)
noncomputable def chkP : Mem → Bool := standL PLs
noncomputable def FD (k : Nat) : Facts := { bins := [(.rem, .map (some 1), .int .i64 40, .int .i64 (.ofNat k))], convs := [(.i64, .map (some 0), .map (some 1))] }
end Go.Proofs.YthfjjcfceilahaaGreatDoor
