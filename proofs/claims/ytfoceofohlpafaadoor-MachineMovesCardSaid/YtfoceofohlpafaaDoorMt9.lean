/- MachineTexts: its four runs. -/
import Derived.Test.YtfoceofohlpafaaDoorMt8
set_option linter.unusedVariables false
set_option linter.unusedSimpArgs false
set_option linter.unusedSectionVars false
set_option maxRecDepth 100000
namespace Go.Proofs.YtfoceofohlpafaaDoor
open Go Go.Am Go.RowKit Go.Ri Go.Proofs.Tryd
variable [SymE]
theorem TxtAt.last {ws : List Nat} {s : ByteArray} (h : s.size < 2 ^ 40) : TxtAt (ws ++ txt s) ws.length s := by
  have := TxtAt.new (ws := ws) (r := []) h
  rwa [List.append_nil] at this
theorem txt_len (s : ByteArray) : (txt s).length = 1 + (s.size + 7) / 8 := by simp [txt, tws_len]; omega
section
variable {aw0 aw : AW} {own : List Nat} {ro l : List (Nat × Blk)} {t1 t2 : TypeId} {cb hb mb qu m b1 b2 b3 rb tb fb gb p nc cc k : Nat} {E : List PanicEntry → AW → Prop} {C : List Value} {ws : List Nat} {Q : (Int × Int × ByteArray × ByteArray × Value × Int × Value) → AW → Prop} {a b : ByteArray}
theorem codeL : CodeAt ro (HL hb mb ws qu (LL m b1 b2 b3 rb tb (RL fb gb p cb nc cc ⟨C, 34, 4, true, 0⟩ l))) (Sl fb 1) 0 nc C :=
  ⟨fb, 1, UNK, cb, cc, _, _, _, _, _, rfl, by decide, .inr (.there (.there (.there (.there (.there (.there (.there .here))))))), rfl, .inr (.there (.there (.there (.there (.there (.there (.there (.there (.there (.there .here))))))))))⟩
theorem sbL : At (HL hb mb ws qu (LL m b1 b2 b3 rb tb l)) b1 (SB m) := .there (.there .here)
end
section
variable {aw0 aw : AW} {own : List Nat} {l : List (Nat × Blk)} {t1 t2 : TypeId} {cb : Nat} {E : List PanicEntry → AW → Prop} {Q : (Int × Int × ByteArray × ByteArray × Value × Int × Value) → AW → Prop} {a b : ByteArray}
end
end Go.Proofs.YtfoceofohlpafaaDoor
