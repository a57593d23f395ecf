/- machine: texts, parts, objects of the stack's things. -/
import Derived.Test.YtfoceofohlpafaaDoorMx6
set_option linter.unusedSectionVars false
set_option linter.unusedSimpArgs false
set_option linter.unusedVariables false
namespace Go.Proofs.Tryd
open Go Go.Am Go.RowKit
variable [SymE]
set_option maxHeartbeats 1000000
section
variable {aw0 aw : AW} {own : List Nat} {ro l Lm : List (Nat × Blk)} {m hb bs qu : Nat} {fu gl fr tr ad bu mo v : Value} {fuel space most ct : Int} {ws st : List Nat} {js sj : List Value} {E : List PanicEntry → AW → Prop} {s : ByteArray}
theorem mpart_x {Q : Int → AW → Prop} {mb j i x y : Nat} (hi : In aw hb (HB (Sl mb ws.length) (qu : Int) ct)) (hm : In aw mb (WB ws js)) (h0 : In aw m (MB (Pt hb) fu gl v fr tr fuel space most ad bu mo)) (hn : ws.length < 2 ^ 60) (hj : ws[j]? = some x) (hx : x < 2 ^ 64)
    (hk : x % 256 ≠ 3) (hil : i < x / 256) (hy : ws[j + 1 + i]? = some y) (h : Q (y : Int) aw) : CallP prog 70 [Pt m, .int .u64 ((2 * j : Nat) : Int), .int .i64 (i : Int)] aw sh70 Q E := by
  refine F70_ok _ _ _ aw ?_
  unfold S70_0
  exact nck_x (fldA_x (ldV_x h0 (by constructor) (part_x hi hm hn rfl hj hx hk hil hy (cnd_0x rfl h))))
end
end Go.Proofs.Tryd
