/- Printed by a program of the prover: what the Go functions of this seat do, in steps. -/
import Derived.Test.YtfoceofohlpafaaDoorL3
import Derived.Test.YtfoceofohlpafaaDoorProg
set_option linter.unusedSectionVars false
set_option linter.unusedSimpArgs false
set_option linter.unusedVariables false
namespace Go.Proofs.Tryd
open Go Go.Am Go.RowKit
variable [SymE]
theorem mixed : prog.follows .mixedOrders = true := by kernel_rfl
theorem sz2 : (prog.info? 2).map (·.size) = some 1 := by kernel_rfl
theorem z2 : (prog.info? 2).bind (·.zero) = some (.int .i64 0) := by kernel_rfl
theorem sz3 : (prog.info? 3).map (·.size) = some 1 := by kernel_rfl
theorem sz4 : (prog.info? 4).map (·.size) = some 1 := by kernel_rfl
theorem z4 : (prog.info? 4).bind (·.zero) = some (.bool false) := by kernel_rfl
theorem sz5 : (prog.info? 5).map (·.size) = some 1 := by kernel_rfl
theorem by5 : (prog.info? 5).map (·.bytes) = some 1 := by kernel_rfl
theorem z5 : (prog.info? 5).bind (·.zero) = some (.int .u8 0) := by kernel_rfl
theorem sz9 : (prog.info? 9).map (·.size) = some 1 := by kernel_rfl
theorem sz24 : (prog.info? 24).map (·.size) = some 1 := by kernel_rfl
theorem sz26 : (prog.info? 26).map (·.size) = some 1 := by kernel_rfl
theorem by26 : (prog.info? 26).map (·.bytes) = some 8 := by kernel_rfl
theorem z26 : (prog.info? 26).bind (·.zero) = some (.int .u64 0) := by kernel_rfl
theorem sz27 : (prog.info? 27).map (·.size) = some 1 := by kernel_rfl
theorem sz29 : (prog.info? 29).map (·.size) = some 6 := by kernel_rfl
theorem z29 : (prog.info? 29).bind (·.zero) = some (.agg #[.int .i64 0, .int .u64 0, .string ⟨#[]⟩, .string ⟨#[]⟩, .slice none 0 0, .int .i64 0]) := by kernel_rfl
theorem bo29 : BuildOk prog 29 [.int .i64 0, .int .u64 0, .string (⟨#[]⟩ : ByteArray), .string (⟨#[]⟩ : ByteArray), (.slice none 0 0), .int .i64 0] [(0, 1), (1, 1), (2, 1), (3, 1), (4, 1), (5, 1)] := ⟨_, _, z29, rfl, rfl, underlying29, by kernel_rfl, by kernel_rfl⟩
theorem sz34 : (prog.info? 34).map (·.size) = some 4 := by kernel_rfl
theorem by34 : (prog.info? 34).map (·.bytes) = some 40 := by kernel_rfl
theorem z34 : (prog.info? 34).bind (·.zero) = some (.agg #[.int .u8 0, .int .i64 0, .int .i64 0, .string ⟨#[]⟩]) := by kernel_rfl
theorem bo34 : BuildOk prog 34 [.int .u8 0, .int .i64 0, .int .i64 0, .string (⟨#[]⟩ : ByteArray)] [(0, 1), (1, 1), (2, 1), (3, 1)] := ⟨_, _, z34, rfl, rfl, underlying34, by kernel_rfl, by kernel_rfl⟩
theorem sz35 : (prog.info? 35).map (·.size) = some 1 := by kernel_rfl
theorem sz43 : (prog.info? 43).map (·.size) = some 2 := by kernel_rfl
theorem by43 : (prog.info? 43).map (·.bytes) = some 32 := by kernel_rfl
theorem z43 : (prog.info? 43).bind (·.zero) = some (.agg #[.int .i64 0, .slice none 0 0]) := by kernel_rfl
theorem bo43 : BuildOk prog 43 [.int .i64 0, (.slice none 0 0)] [(0, 1), (1, 1)] := ⟨_, _, z43, rfl, rfl, underlying43, by kernel_rfl, by kernel_rfl⟩
theorem sz44 : (prog.info? 44).map (·.size) = some 1 := by kernel_rfl
theorem z44 : (prog.info? 44).bind (·.zero) = some (.slice none 0 0) := by kernel_rfl
theorem sz48 : (prog.info? 48).map (·.size) = some 2 := by kernel_rfl
theorem by48 : (prog.info? 48).map (·.bytes) = some 16 := by kernel_rfl
theorem z48 : (prog.info? 48).bind (·.zero) = some (.agg #[.bool false, .int .i64 0]) := by kernel_rfl
theorem bo48 : BuildOk prog 48 [.bool false, .int .i64 0] [(0, 1), (1, 1)] := ⟨_, _, z48, rfl, rfl, underlying48, by kernel_rfl, by kernel_rfl⟩
theorem sz50 : (prog.info? 50).map (·.size) = some 1 := by kernel_rfl
theorem sz62 : (prog.info? 62).map (·.size) = some 1 := by kernel_rfl
theorem sz70 : (prog.info? 70).map (·.size) = some 1 := by kernel_rfl
theorem sz71 : (prog.info? 71).map (·.size) = some 1 := by kernel_rfl
theorem sz72 : (prog.info? 72).map (·.size) = some 1 := by kernel_rfl
theorem sz73 : (prog.info? 73).map (·.size) = some 1 := by kernel_rfl
theorem sz75 : (prog.info? 75).map (·.size) = some 2 := by kernel_rfl
theorem z77 : (prog.info? 77).bind (·.zero) = some (.agg #[.pointer none, .slice none 0 0, .slice none 0 0, .slice none 0 0, .slice none 0 0, .slice none 0 0, .int .i64 0, .int .i64 0, .int .i64 0, .pointer none, .slice none 0 0, .slice none 0 0]) := by kernel_rfl
theorem bo77 : BuildOk prog 77 [(.pointer none), (.slice none 0 0), (.slice none 0 0), (.slice none 0 0), (.slice none 0 0), (.slice none 0 0), .int .i64 0, .int .i64 0, .int .i64 0, (.pointer none), (.slice none 0 0), (.slice none 0 0)] [(0, 1), (1, 1), (2, 1), (3, 1), (4, 1), (5, 1), (6, 1), (7, 1), (8, 1), (9, 2), (11, 1)] := ⟨_, _, z77, rfl, rfl, underlying77, by kernel_rfl, by kernel_rfl⟩
theorem sz85 : (prog.info? 85).map (·.size) = some 3 := by kernel_rfl
theorem by85 : (prog.info? 85).map (·.bytes) = some 24 := by kernel_rfl
theorem z85 : (prog.info? 85).bind (·.zero) = some (.agg #[.int .i64 0, .int .i64 0, .int .i64 0]) := by kernel_rfl
theorem bo85 : BuildOk prog 85 [.int .i64 0, .int .i64 0, .int .i64 0] [(0, 1), (1, 1), (2, 1)] := ⟨_, _, z85, rfl, rfl, underlying85, by kernel_rfl, by kernel_rfl⟩
theorem sz92 : (prog.info? 92).map (·.size) = some 1 := by kernel_rfl
theorem z94 : (prog.info? 94).bind (·.zero) = some (.agg #[.slice none 0 0, .int .i64 0, .int .i8 0]) := by kernel_rfl
theorem z100 : (prog.info? 100).bind (·.zero) = some (.agg #[.slice none 0 0, .int .i64 0, .int .i64 0]) := by kernel_rfl
theorem bo100 : BuildOk prog 100 [(.slice none 0 0), .int .i64 0, .int .i64 0] [(0, 1), (1, 1), (2, 1)] := ⟨_, _, z100, rfl, rfl, underlying100, by kernel_rfl, by kernel_rfl⟩
theorem sz107 : (prog.info? 107).map (·.size) = some 1 := by kernel_rfl
theorem by107 : (prog.info? 107).map (·.bytes) = some 8 := by kernel_rfl
theorem z107 : (prog.info? 107).bind (·.zero) = some (.pointer none) := by kernel_rfl
theorem sz114 : (prog.info? 114).map (·.size) = some 1 := by kernel_rfl
theorem z114 : (prog.info? 114).bind (·.zero) = some (.agg #[.int .i64 0]) := by kernel_rfl
theorem bo114 : BuildOk prog 114 [.int .i64 0] [(0, 1)] := ⟨_, _, z114, rfl, rfl, underlying114, by kernel_rfl, by kernel_rfl⟩
theorem sz116 : (prog.info? 116).map (·.size) = some 1 := by kernel_rfl
theorem z116 : (prog.info? 116).bind (·.zero) = some (.agg #[.string ⟨#[]⟩]) := by kernel_rfl
theorem bo116 : BuildOk prog 116 [.string (⟨#[]⟩ : ByteArray)] [(0, 1)] := ⟨_, _, z116, rfl, rfl, underlying116, by kernel_rfl, by kernel_rfl⟩
def sh5 : Bool → Value := fun r => .bool r
def sh11 : Bool → Value := fun r => .bool r
theorem is11 : IsFn prog 11 := isFn_of func11 (by kernel_rfl) (by kernel_rfl)
def sh12 : Int → Value := fun r => .int .i64 r
theorem is12 : IsFn prog 12 := isFn_of func12 (by kernel_rfl) (by kernel_rfl)
def sh13 : (Int × Int × ByteArray × ByteArray × Value × Int × Value) → Value := fun r => .tuple #[.agg #[.int .i64 r.1, .int .u64 r.2.1, .string r.2.2.1, .string r.2.2.2.1, r.2.2.2.2.1, .int .i64 r.2.2.2.2.2.1], r.2.2.2.2.2.2]
theorem is13 : IsFn prog 13 := isFn_of func13 (by kernel_rfl) (by kernel_rfl)
def sh14 : Int → Value := fun r => .int .u64 r
theorem is14 : IsFn prog 14 := isFn_of func14 (by kernel_rfl) (by kernel_rfl)
def sh15 : (Value × Int) → Value := fun r => .tuple #[r.1, .int .i64 r.2]
theorem is15 : IsFn prog 15 := isFn_of func15 (by kernel_rfl) (by kernel_rfl)
def sh16 : Int → Value := fun r => .int .i64 r
theorem is16 : IsFn prog 16 := isFn_of func16 (by kernel_rfl) (by kernel_rfl)
def sh17 : (Int × Int × ByteArray × ByteArray × Value × Int) → Value := fun r => .agg #[.int .i64 r.1, .int .u64 r.2.1, .string r.2.2.1, .string r.2.2.2.1, r.2.2.2.2.1, .int .i64 r.2.2.2.2.2]
theorem is17 : IsFn prog 17 := isFn_of func17 (by kernel_rfl) (by kernel_rfl)
def sh19 : ByteArray → Value := fun r => .string r
theorem is19 : IsFn prog 19 := isFn_of func19 (by kernel_rfl) (by kernel_rfl)
def sh21 : Bool → Value := fun r => .bool r
theorem is21 : IsFn prog 21 := isFn_of func21 (by kernel_rfl) (by kernel_rfl)
def sh23 : Int → Value := fun r => .int .i64 r
theorem is23 : IsFn prog 23 := isFn_of func23 (by kernel_rfl) (by kernel_rfl)
def sh28 : (Value × Int) → Value := fun r => .tuple #[r.1, .int .i64 r.2]
theorem is28 : IsFn prog 28 := isFn_of func28 (by kernel_rfl) (by kernel_rfl)
def sh30 : (Int × Int) → Value := fun r => .tuple #[.int .u64 r.1, .int .i64 r.2]
theorem is30 : IsFn prog 30 := isFn_of func30 (by kernel_rfl) (by kernel_rfl)
def sh31 : Value → Value := fun r => r
theorem is31 : IsFn prog 31 := isFn_of func31 (by kernel_rfl) (by kernel_rfl)
def sh32 : Value → Value := fun r => r
theorem is32 : IsFn prog 32 := isFn_of func32 (by kernel_rfl) (by kernel_rfl)
def sh33 : Unit → Value := fun r => .tuple #[]
theorem is33 : IsFn prog 33 := isFn_of func33 (by kernel_rfl) (by kernel_rfl)
def sh34 : Unit → Value := fun r => .tuple #[]
theorem is34 : IsFn prog 34 := isFn_of func34 (by kernel_rfl) (by kernel_rfl)
def sh35 : (Bool × Int × Int × ByteArray × ByteArray × Value × Int) → Value := fun r => .tuple #[.bool r.1, .agg #[.int .i64 r.2.1, .int .u64 r.2.2.1, .string r.2.2.2.1, .string r.2.2.2.2.1, r.2.2.2.2.2.1, .int .i64 r.2.2.2.2.2.2]]
theorem is35 : IsFn prog 35 := isFn_of func35 (by kernel_rfl) (by kernel_rfl)
def sh36 : ByteArray → Value := fun r => .string r
theorem is36 : IsFn prog 36 := isFn_of func36 (by kernel_rfl) (by kernel_rfl)
def sh37 : Int → Value := fun r => .int .u64 r
theorem is37 : IsFn prog 37 := isFn_of func37 (by kernel_rfl) (by kernel_rfl)
def sh38 : Int → Value := fun r => .int .u8 r
theorem is38 : IsFn prog 38 := isFn_of func38 (by kernel_rfl) (by kernel_rfl)
def sh39 : Int → Value := fun r => .int .i64 r
theorem is39 : IsFn prog 39 := isFn_of func39 (by kernel_rfl) (by kernel_rfl)
def sh40 : Value → Value := fun r => r
theorem is40 : IsFn prog 40 := isFn_of func40 (by kernel_rfl) (by kernel_rfl)
def sh41 : Int → Value := fun r => .int .i64 r
theorem is41 : IsFn prog 41 := isFn_of func41 (by kernel_rfl) (by kernel_rfl)
def sh42 : ByteArray → Value := fun r => .string r
theorem is42 : IsFn prog 42 := isFn_of func42 (by kernel_rfl) (by kernel_rfl)
def sh49 : Bool → Value := fun r => .bool r
theorem is49 : IsFn prog 49 := isFn_of func49 (by kernel_rfl) (by kernel_rfl)
def sh52 : Bool → Value := fun r => .bool r
theorem is52 : IsFn prog 52 := isFn_of func52 (by kernel_rfl) (by kernel_rfl)
def sh53 : Int → Value := fun r => .int .i64 r
theorem is53 : IsFn prog 53 := isFn_of func53 (by kernel_rfl) (by kernel_rfl)
def sh54 : Int → Value := fun r => .int .u64 r
theorem is54 : IsFn prog 54 := isFn_of func54 (by kernel_rfl) (by kernel_rfl)
def sh55 : Value → Value := fun r => r
theorem is55 : IsFn prog 55 := isFn_of func55 (by kernel_rfl) (by kernel_rfl)
def sh56 : Unit → Value := fun r => .tuple #[]
theorem is56 : IsFn prog 56 := isFn_of func56 (by kernel_rfl) (by kernel_rfl)
def sh57 : (Bool × Int × Int × ByteArray × ByteArray × Value × Int) → Value := fun r => .tuple #[.bool r.1, .agg #[.int .i64 r.2.1, .int .u64 r.2.2.1, .string r.2.2.2.1, .string r.2.2.2.2.1, r.2.2.2.2.2.1, .int .i64 r.2.2.2.2.2.2]]
theorem is57 : IsFn prog 57 := isFn_of func57 (by kernel_rfl) (by kernel_rfl)
def sh58 : Unit → Value := fun r => .tuple #[]
theorem is58 : IsFn prog 58 := isFn_of func58 (by kernel_rfl) (by kernel_rfl)
def sh59 : (Int × Bool) → Value := fun r => .tuple #[.int .i64 r.1, .bool r.2]
theorem is59 : IsFn prog 59 := isFn_of func59 (by kernel_rfl) (by kernel_rfl)
def sh60 : Int → Value := fun r => .int .i64 r
theorem is60 : IsFn prog 60 := isFn_of func60 (by kernel_rfl) (by kernel_rfl)
def sh67 : Bool → Value := fun r => .bool r
theorem is67 : IsFn prog 67 := isFn_of func67 (by kernel_rfl) (by kernel_rfl)
def sh68 : (Int × Int) → Value := fun r => .tuple #[.int .u64 r.1, .int .i64 r.2]
theorem is68 : IsFn prog 68 := isFn_of func68 (by kernel_rfl) (by kernel_rfl)
def sh69 : Unit → Value := fun r => .tuple #[]
theorem is69 : IsFn prog 69 := isFn_of func69 (by kernel_rfl) (by kernel_rfl)
def sh70 : Int → Value := fun r => .int .u64 r
theorem is70 : IsFn prog 70 := isFn_of func70 (by kernel_rfl) (by kernel_rfl)
def sh72 : Unit → Value := fun r => .tuple #[]
theorem is72 : IsFn prog 72 := isFn_of func72 (by kernel_rfl) (by kernel_rfl)
def sh73 : Int → Value := fun r => .int .i64 r
theorem is73 : IsFn prog 73 := isFn_of func73 (by kernel_rfl) (by kernel_rfl)
def sh75 : Unit → Value := fun r => .tuple #[]
theorem is75 : IsFn prog 75 := isFn_of func75 (by kernel_rfl) (by kernel_rfl)
def sh76 : Int → Value := fun r => .int .i64 r
theorem is76 : IsFn prog 76 := isFn_of func76 (by kernel_rfl) (by kernel_rfl)
def sh78 : Value → Value := fun r => r
theorem is78 : IsFn prog 78 := isFn_of func78 (by kernel_rfl) (by kernel_rfl)
def sh79 : Int → Value := fun r => .int .i64 r
theorem is79 : IsFn prog 79 := isFn_of func79 (by kernel_rfl) (by kernel_rfl)
def sh80 : (Int × Int) → Value := fun r => .tuple #[.int .u64 r.1, .int .i64 r.2]
theorem is80 : IsFn prog 80 := isFn_of func80 (by kernel_rfl) (by kernel_rfl)
def sh81 : Unit → Value := fun r => .tuple #[]
theorem is81 : IsFn prog 81 := isFn_of func81 (by kernel_rfl) (by kernel_rfl)
def sh82 : Unit → Value := fun r => .tuple #[]
theorem is82 : IsFn prog 82 := isFn_of func82 (by kernel_rfl) (by kernel_rfl)
def sh86 : Unit → Value := fun r => .tuple #[]
theorem is86 : IsFn prog 86 := isFn_of func86 (by kernel_rfl) (by kernel_rfl)
def sh88 : (Int × Value) → Value := fun r => .tuple #[.int .i64 r.1, r.2]
theorem is88 : IsFn prog 88 := isFn_of func88 (by kernel_rfl) (by kernel_rfl)
def sh89 : Int → Value := fun r => .int .i64 r
theorem is89 : IsFn prog 89 := isFn_of func89 (by kernel_rfl) (by kernel_rfl)
def sh92 : Unit → Value := fun r => .tuple #[]
theorem is92 : IsFn prog 92 := isFn_of func92 (by kernel_rfl) (by kernel_rfl)
theorem ext97 : IsExt prog 97 Extern.AbiNoEscape.same := ⟨f97, func97, by kernel_rfl, by kernel_rfl, by kernel_rfl, by kernel_rfl⟩
end Go.Proofs.Tryd
