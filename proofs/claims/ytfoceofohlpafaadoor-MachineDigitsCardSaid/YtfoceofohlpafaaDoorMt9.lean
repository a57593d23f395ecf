/- MachineTexts: its four runs. -/
import Derived.Test.YtfoceofohlpafaaDoorMt8
set_option linter.unusedVariables false
set_option linter.unusedSimpArgs false
set_option linter.unusedSectionVars false
set_option maxRecDepth 100000
namespace Go.Proofs.YtfoceofohlpafaaDoor
open Go Go.Am Go.RowKit Go.Ri Go.Proofs.Tryd
variable [SymE]
theorem TxtAt.last {ws : List Nat} {s : ByteArray} (h : s.size < 2 ^ 40) : TxtAt (ws ++ txt s) ws.length s := by
  have := TxtAt.new (ws := ws) (r := []) h
  rwa [List.append_nil] at this
theorem txt_len (s : ByteArray) : (txt s).length = 1 + (s.size + 7) / 8 := by simp [txt, tws_len]; omega
section
variable {aw0 aw : AW} {own : List Nat} {ro l : List (Nat × Blk)} {t1 t2 : TypeId} {cb hb mb qu m b1 b2 b3 rb tb fb gb p nc cc k : Nat} {E : List PanicEntry → AW → Prop} {C : List Value} {ws : List Nat} {Q : (Int × Int × ByteArray × ByteArray × Value × Int × Value) → AW → Prop} {a b : ByteArray}
theorem codeL : CodeAt ro (HL hb mb ws qu (LL m b1 b2 b3 rb tb (RL fb gb p cb nc cc ⟨C, 34, 4, true, 0⟩ l))) (Sl fb 1) 0 nc C :=
  ⟨fb, 1, UNK, cb, cc, _, _, _, _, _, rfl, by decide, .inr (.there (.there (.there (.there (.there (.there (.there .here))))))), rfl, .inr (.there (.there (.there (.there (.there (.there (.there (.there (.there (.there .here))))))))))⟩
theorem sbL : At (HL hb mb ws qu (LL m b1 b2 b3 rb tb l)) b1 (SB m) := .there (.there .here)
theorem end13 {CB : Blk} {w n2 : Nat} {fuel : Int} (H : MM aw0 own ro (MX m hb fb gb) ([] ++ [w]) [] fuel (HL hb mb ws qu (LL m b1 b2 b3 rb tb (RL fb gb p cb nc cc CB l))) aw)
    (hQ : ∀ sk' fr' aw', Hp aw0 own ro aw' ((m, MCB (MX m hb fb gb) sk' fr' fuel) :: HL hb mb ws qu ((cb, CB) :: l)) → Q (0, (w : Int), ⟨#[]⟩, ⟨#[]⟩, nil3, fuel, Pt m) aw') : S35_1 (Q35 (QR Q m p) E m tb rb (n2 + 1)) E (k + 1) (Pt b1) (Pt b2) (Pt b3) aw := by
  have H' := H.perm (l' := LL m b1 b2 b3 rb tb (HL hb mb ws qu (RL fb gb p cb nc cc CB l))) (by
    classical exact List.perm_iff_count.2 fun a => by simp only [List.count_cons, HL, LL, RL]; omega)
  refine fin_ok (st := []) (w := w) rfl rfl rfl (by decide) H' fun sk' fr' aw' M' => ?_
  have M2 : Hp aw0 own ro aw' ((fb, funB cb nc cc) :: (gb, WB (gw 8) []) :: ((m, MCB (MX m hb fb gb) sk' fr' fuel) :: (p, R0) :: HL hb mb ws qu ((cb, CB) :: l))) := M'.perm (by
    classical exact List.perm_iff_count.2 fun a => by simp only [List.count_cons, HL, LL, RL]; omega)
  exact ret13 rfl ((M2.drop .here).drop .here) fun aw'' M3 => hQ sk' fr' aw'' M3
end
section
variable {aw0 aw : AW} {own : List Nat} {l : List (Nat × Blk)} {t1 t2 : TypeId} {cb : Nat} {E : List PanicEntry → AW → Prop} {Q : (Int × Int × ByteArray × ByteArray × Value × Int × Value) → AW → Prop} {a b : ByteArray}
end
end Go.Proofs.YtfoceofohlpafaaDoor
