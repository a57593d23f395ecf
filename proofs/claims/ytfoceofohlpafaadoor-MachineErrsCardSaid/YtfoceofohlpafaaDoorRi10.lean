/- The interpreter: the memory at first: variables of the program that are read only. -/
import Derived.Test.YtfoceofohlpafaaDoorRi9
set_option linter.unusedSimpArgs false
set_option linter.unusedVariables false
set_option linter.unusedSectionVars false
namespace Go.Ri
open Go Go.Am Go.RowKit
variable [SymE]
variable [FT] [FTok]

/-- the cells of plain data -/
def dCells {H : Type} : Nat → DataW H → Option (List Value)
  | 0, _ => none
  | n + 1, d => match d with
    | .lit (.int k m) => some [.int k m]
    | .lit (.string l) => some [.string ⟨⟨l⟩⟩]
    | .lit (.bool b) => some [.bool b]
    | .agg ds => all n ds
    | _ => none
where
  all {H : Type} (n : Nat) : List (DataW H) → Option (List Value)
  | [] => some []
  | d :: r => match dCells n d, all n r with
    | some a, some b => some (a ++ b)
    | _, _ => none
/-- variables: number, cells, type -/
noncomputable def mem0 (G : Nat) (l : List (Nat × List Value × TypeId)) : Mem := ⟨List.rec (motive := fun _ => T (Option RB)) .leaf (fun p _ ih => match ih with
  | .leaf => T.set (some ⟨T.ofL p.2.1 0 .leaf, p.2.1.length, p.2.2, 0, false⟩) .leaf p.1
  | .node a b c => T.set (some ⟨T.ofL p.2.1 0 .leaf, p.2.1.length, p.2.2, 0, false⟩) (.node a b c) p.1) l, G⟩
end Go.Ri
