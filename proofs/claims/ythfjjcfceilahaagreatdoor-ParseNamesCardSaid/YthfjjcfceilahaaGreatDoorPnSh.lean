/- slices.Sort and slices.Compact of this program: the library's contracts, laid. -/
import Derived.Shelf.Sort.Plain
import Derived.Shelf.Slices.CompactS
import Derived.Test.YthfjjcfceilahaaGreatDoorProg
set_option linter.unusedSectionVars false
set_option linter.unusedVariables false
set_option linter.unusedSimpArgs false
namespace Go.Proofs
open Go.Shelf
def Tryz.lays190_ren : Go.Shelf.Ren := ⟨fun | 190 => 82 | 125 => 93 | 258 => 92 | 128 => 106 | 129 => 107 | 302 => 97 | 303 => 98 | 304 => 99 | 305 => 100 | 306 => 101 | 307 => 102 | 308 => 103 | 309 => 104 | 310 => 105 | 333 => 113 | 329 => 114 | 330 => 115 | 334 => 116 | 335 => 117 | 336 => 118 | 344 => 125 | n => n, fun | 31 => 30 | 9 => 9 | 3 => 3 | 46 => 115 | 0 => 0 | 51 => 143 | 53 => 84 | 4 => 4 | 183 => 136 | 182 => 135 | 131 => 140 | 5 => 5 | 218 => 149 | 222 => 153 | 228 => 163 | 229 => 164 | n => n, fun | n => n⟩
theorem Tryz.lays190 : Go.Proofs.Lays.n190 Tryz.prog Tryz.lays190_ren := {
  mixed := by kernel_rfl
  f125 := Tryz.func93.trans (congrArg some (by kernel_rfl))
  f128 := Tryz.func106.trans (congrArg some (by kernel_rfl))
  f129 := Tryz.func107.trans (congrArg some (by kernel_rfl))
  f190 := Tryz.func82.trans (congrArg some (by kernel_rfl))
  f258 := Tryz.func92.trans (congrArg some (by kernel_rfl))
  f302 := Tryz.func97.trans (congrArg some (by kernel_rfl))
  f303 := Tryz.func98.trans (congrArg some (by kernel_rfl))
  f304 := Tryz.func99.trans (congrArg some (by kernel_rfl))
  f305 := Tryz.func100.trans (congrArg some (by kernel_rfl))
  f306 := Tryz.func101.trans (congrArg some (by kernel_rfl))
  f307 := Tryz.func102.trans (congrArg some (by kernel_rfl))
  f308 := Tryz.func103.trans (congrArg some (by kernel_rfl))
  f309 := Tryz.func104.trans (congrArg some (by kernel_rfl))
  f310 := Tryz.func105.trans (congrArg some (by kernel_rfl))
  f329 := Tryz.func114.trans (congrArg some (by kernel_rfl))
  f330 := Tryz.func115.trans (congrArg some (by kernel_rfl))
  f333 := Tryz.func113.trans (congrArg some (by kernel_rfl))
  f334 := Tryz.func116.trans (congrArg some (by kernel_rfl))
  f335 := Tryz.func117.trans (congrArg some (by kernel_rfl))
  f336 := Tryz.func118.trans (congrArg some (by kernel_rfl))
  f344 := Tryz.func125.trans (congrArg some (by kernel_rfl))
  t0 := Tryz.underlying0
  a0 := Tryz.isAgg0
  z0 := Tryz.sizeOf0
  v0 := Tryz.zeroValue0
  t3 := Tryz.underlying3
  a3 := Tryz.isAgg3
  z3 := Tryz.sizeOf3
  v3 := Tryz.zeroValue3
  t4 := Tryz.underlying4
  a4 := Tryz.isAgg4
  z4 := Tryz.sizeOf4
  v4 := Tryz.zeroValue4
  t5 := Tryz.underlying5
  a5 := Tryz.isAgg5
  z5 := Tryz.sizeOf5
  v5 := Tryz.zeroValue5
  t9 := Tryz.underlying9
  a9 := Tryz.isAgg9
  z9 := Tryz.sizeOf9
  v9 := Tryz.zeroValue9
  t31 := Tryz.underlying30
  a31 := Tryz.isAgg30
  z31 := Tryz.sizeOf30
  v31 := Tryz.zeroValue30
  t46 := Tryz.underlying115
  a46 := Tryz.isAgg115
  z46 := Tryz.sizeOf115
  v46 := Tryz.zeroValue115
  t51 := Tryz.underlying143
  a51 := Tryz.isAgg143
  z51 := Tryz.sizeOf143
  v51 := Tryz.zeroValue143
  t53 := Tryz.underlying84
  a53 := Tryz.isAgg84
  z53 := Tryz.sizeOf84
  v53 := Tryz.zeroValue84
  t131 := Tryz.underlying140
  a131 := Tryz.isAgg140
  z131 := Tryz.sizeOf140
  v131 := Tryz.zeroValue140
  t182 := Tryz.underlying135
  a182 := Tryz.isAgg135
  z182 := Tryz.sizeOf135
  v182 := Tryz.zeroValue135
  t183 := Tryz.underlying136
  a183 := Tryz.isAgg136
  z183 := Tryz.sizeOf136
  v183 := Tryz.zeroValue136
  t218 := Tryz.underlying149
  a218 := Tryz.isAgg149
  z218 := Tryz.sizeOf149
  v218 := Tryz.zeroValue149
  t222 := Tryz.underlying153
  a222 := Tryz.isAgg153
  z222 := Tryz.sizeOf153
  v222 := Tryz.zeroValue153
  t228 := Tryz.underlying163
  a228 := Tryz.isAgg163
  z228 := Tryz.sizeOf163
  v228 := Tryz.zeroValue163
  t229 := Tryz.underlying164
  a229 := Tryz.isAgg164
  z229 := Tryz.sizeOf164
  v229 := Tryz.zeroValue164 }
open Go.Sort Go.RowKit in
theorem Tryz.slices_Sort_string (blk off cap : Nat) (ss : List (List UInt8)) (w : World) (hH : Holds encStr w blk off ss.toArray) (hblk : blk < w.heap.size) (hsz : ss.length < 4611686018427387904) :
    Calls Tryz.prog 82 #[.slice (some ⟨blk, off, none⟩) ss.length cap] w fun e w' =>
      e = .returned (.tuple #[]) ∧ ∃ n os, w' = grow (putRow encStr (Sort.ahead w n) blk off (ss.mergeSort fun x y => decide (x ≤ y)).toArray) os := Any.slices_Sort_string Tryz.lays190 blk off cap ss w hH hblk hsz
def Tryz.lays194_ren : Go.Shelf.Ren := ⟨fun | 194 => 83 | n => n, fun | 31 => 30 | 9 => 9 | 3 => 3 | 4 => 4 | 0 => 0 | n => n, fun | n => n⟩
theorem Tryz.lays194 : Go.Proofs.Lays.n194 Tryz.prog Tryz.lays194_ren := {
  mixed := by kernel_rfl
  f194 := Tryz.func83.trans (congrArg some (by kernel_rfl))
  t0 := Tryz.underlying0
  a0 := Tryz.isAgg0
  z0 := Tryz.sizeOf0
  v0 := Tryz.zeroValue0
  t3 := Tryz.underlying3
  a3 := Tryz.isAgg3
  z3 := Tryz.sizeOf3
  v3 := Tryz.zeroValue3
  t4 := Tryz.underlying4
  a4 := Tryz.isAgg4
  z4 := Tryz.sizeOf4
  v4 := Tryz.zeroValue4
  t9 := Tryz.underlying9
  a9 := Tryz.isAgg9
  z9 := Tryz.sizeOf9
  v9 := Tryz.zeroValue9
  t31 := Tryz.underlying30
  a31 := Tryz.isAgg30
  z31 := Tryz.sizeOf30
  v31 := Tryz.zeroValue30 }
open Go.RowKit Go.Lib Go.Sort in
theorem Tryz.slices_Compact_string (blk off cap : Nat) (zs : List (List UInt8)) (w : World) (hH : Holds encStr w blk off zs.toArray) (hsz : zs.length ≤ 9223372036854775807) (hcap : zs.length ≤ cap) :
    Calls Tryz.prog 83 #[.slice (some ⟨blk, off, none⟩) zs.length cap] w fun e w' => e = .returned (.slice (some ⟨blk, off, none⟩) (Lib.compact zs).length cap) ∧ ∃ q, w' = putRow encStr (Sort.ahead w q) blk off (Lib.compact zs ++ List.replicate (zs.length - (Lib.compact zs).length) []).toArray := Any.slices_Compact_string Tryz.lays194 blk off cap zs w hH hsz hcap
end Go.Proofs
