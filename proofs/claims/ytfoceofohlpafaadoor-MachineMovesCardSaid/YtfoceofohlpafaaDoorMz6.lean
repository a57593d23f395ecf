/- MachineFuel: a function that calls itself. -/
import Derived.Test.YtfoceofohlpafaaDoorMz5
set_option linter.unusedVariables false
set_option linter.unusedSimpArgs false
set_option linter.unusedSectionVars false
namespace Go.Proofs.Tryd
open Go Go.Am Go.RowKit
variable [SymE]
set_option maxHeartbeats 1000000
abbrev IC (op : Nat) (n a : Int) (s : ByteArray) : List Value := [.int .u8 (op : Int), .int .i64 n, .int .i64 a, .string s]
structure CodeAt (ro l : List (Nat × Blk)) (fu : Value) (f cn : Nat) (cells : List Value) : Prop where
  ex : ∃ fb nf cf cb cc FU t e rw fz, fu = .slice (some ⟨fb, 0, none⟩) nf cf ∧ f < nf ∧ Here ro l fb FU ∧ FU.cells[f * 2 + 1]? = some (.slice (some ⟨cb, 0, none⟩) cn cc) ∧ Here ro l cb ⟨cells, t, e, rw, fz⟩
theorem CodeAt.ins {ro l : List (Nat × Blk)} {fu : Value} {f cn pc op : Nat} {cells : List Value} {n a : Int} {s : ByteArray} (h : CodeAt ro l fu f cn cells) (hpc : pc < cn) (hcn : cn < 2 ^ 40) (hc : (cells.drop (pc * 4)).take 4 = IC op n a s) : InsAt ro l fu f pc op n a s := by
  obtain ⟨fb, nf, cf, cb, cc, FU, t, e, rw_, fz, h1, h2, h3, h4, h5⟩ := h.ex
  have g : ∀ i v, (IC op n a s)[i]? = some v → i < 4 → cells[0 + pc * 4 + i]? = some v := fun i v hi h4 => by
    rw [← hc, List.getElem?_take, if_pos h4, List.getElem?_drop] at hi
    rw [Nat.zero_add]; exact hi
  exact ⟨fb, nf, cf, cb, 0, cn, cc, FU, ⟨cells, t, e, rw_, fz⟩, h1, h2, h3, h4, hpc, by omega, h5, g 0 _ rfl (by decide), g 1 _ rfl (by decide), g 2 _ rfl (by decide), g 3 _ rfl (by decide)⟩
section
variable {aw0 : AW} {own : List Nat} {ro l : List (Nat × Blk)} {X : MC} {b1 b2 b3 mb nf cf bu_ qu : Nat} {E : List PanicEntry → AW → Prop} {Q : (Bool × Int × Int × ByteArray × ByteArray × Value × Int) → AW → Prop} {ws : List Nat} {mj : List Value} {ct : Int}
end
end Go.Proofs.Tryd
