/- machine: an exception that nothing catches; what was printed, when nothing was. -/
import Derived.Test.YtfoceofohlpafaaDoorMx14
set_option linter.unusedSectionVars false
set_option linter.unusedSimpArgs false
set_option linter.unusedVariables false
namespace Go.Proofs.Tryd
open Go Go.Am Go.RowKit
variable [SymE]
set_option maxHeartbeats 1000000
section
variable {aw0 aw : AW} {own : List Nat} {ro l : List (Nat × Blk)} {m bf k b1 b2 b3 n : Nat} {h fu gl sk fr tr ad mo : Value} {fuel space most : Int} {E : List PanicEntry → AW → Prop} {Q : (Bool × Int × Int × ByteArray × ByteArray × Value × Int) → AW → Prop} {s : ByteArray} {bu : Value}
theorem string0 {Q : ByteArray → AW → Prop} (M : Hp aw0 own ro aw ((m, MB h fu gl sk fr tr fuel space most ad nil3 mo) :: l)) (hQ : Q ⟨#[]⟩ aw) : CallP prog 36 [.pointer (some ⟨m, 9, none⟩)] aw sh36 Q E := by
  refine F36_ok _ aw ?_
  unfold S36_0
  refine nck_x (fldA_x (ldV_x (M.im .here) (by repeat constructor) (nck_x (fldA_x (ldV_x (M.im .here) (by repeat constructor) (slen_x ?_))))))
  refine ⟨_, .inr rfl, rfl, again_x (M.im .here) (by repeat constructor) ⟨⟨#[]⟩, aw, .inl ⟨rfl, ⟨_, rfl⟩, rfl, rfl⟩, hQ⟩⟩
end
end Go.Proofs.Tryd
