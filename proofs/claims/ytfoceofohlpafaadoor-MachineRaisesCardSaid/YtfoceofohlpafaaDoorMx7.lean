/- machine: texts, parts, objects of the stack's things. -/
import Derived.Test.YtfoceofohlpafaaDoorMx6
set_option linter.unusedSectionVars false
set_option linter.unusedSimpArgs false
set_option linter.unusedVariables false
namespace Go.Proofs.Tryd
open Go Go.Am Go.RowKit
variable [SymE]
set_option maxHeartbeats 1000000
section
variable {aw0 aw : AW} {own : List Nat} {ro l Lm : List (Nat × Blk)} {m hb bs qu : Nat} {fu gl fr tr ad bu mo v : Value} {fuel space most ct : Int} {ws st : List Nat} {js sj : List Value} {E : List PanicEntry → AW → Prop} {s : ByteArray}
abbrev txt (s : ByteArray) : List Nat := (s.size * 2 ^ 8 + 3) :: tws s 0 ((s.size + 7) / 8)
theorem tws_len (s : ByteArray) : ∀ n i, (tws s i n).length = n
  | 0, _ => rfl
  | n + 1, i => by simp [tws, tws_len s n]
end
end Go.Proofs.Tryd
