/- What ParseLevels asks of its numbers. -/
import Derived.Test.YthfjjcfceilahaaGreatDoorPTab2
namespace Go.Proofs.YthfjjcfceilahaaGreatDoor
open Go Go.Am Go.Ri
noncomputable def FV (a r : Nat) : Facts := { bins := [(.rem, .map (some 2), .int .i64 14, .int .i64 (.ofNat a)), (.rem, .map (some 3), .int .i64 14, .int .i64 (.ofNat r))], convs := [(.i64, .map (some 0), .map (some 2)), (.i64, .map (some 1), .map (some 3))] }
end Go.Proofs.YthfjjcfceilahaaGreatDoor
