/- MachineTexts: its four runs. -/
import Derived.Test.YtfoceofohlpafaaDoorMt8
set_option linter.unusedVariables false
set_option linter.unusedSimpArgs false
set_option linter.unusedSectionVars false
set_option maxRecDepth 100000
namespace Go.Proofs.YtfoceofohlpafaaDoor
open Go Go.Am Go.RowKit Go.Ri Go.Proofs.Tryd
variable [SymE]
theorem TxtAt.last {ws : List Nat} {s : ByteArray} (h : s.size < 2 ^ 40) : TxtAt (ws ++ txt s) ws.length s := by
  have := TxtAt.new (ws := ws) (r := []) h
  rwa [List.append_nil] at this
theorem txt_len (s : ByteArray) : (txt s).length = 1 + (s.size + 7) / 8 := by simp [txt, tws_len]; omega
section
variable {aw0 aw : AW} {own : List Nat} {ro l : List (Nat × Blk)} {t1 t2 : TypeId} {cb hb mb qu m b1 b2 b3 rb tb fb gb p nc cc k : Nat} {E : List PanicEntry → AW → Prop} {C : List Value} {ws : List Nat} {Q : (Int × Int × ByteArray × ByteArray × Value × Int × Value) → AW → Prop} {a b : ByteArray}
theorem codeL : CodeAt ro (HL hb mb ws qu (LL m b1 b2 b3 rb tb (RL fb gb p cb nc cc ⟨C, 34, 4, true, 0⟩ l))) (Sl fb 1) 0 nc C :=
  ⟨fb, 1, UNK, cb, cc, _, _, _, _, _, rfl, by decide, .inr (.there (.there (.there (.there (.there (.there (.there .here))))))), rfl, .inr (.there (.there (.there (.there (.there (.there (.there (.there (.there (.there .here))))))))))⟩
theorem sbL : At (HL hb mb ws qu (LL m b1 b2 b3 rb tb l)) b1 (SB m) := .there (.there .here)
theorem endRaise {CB : Blk} {st : List Nat} {fs : List Fr} {n2 : Nat} {fuel : Int} {s : ByteArray} (H : MM aw0 own ro (MX m hb fb gb) st fs fuel (HL hb mb ws qu (LL m b1 b2 b3 rb tb (RL fb gb p cb nc cc CB l))) aw)
    (hQ : ∀ sk' fr' aw', Hp aw0 own ro aw' ((m, MCB (MX m hb fb gb) sk' fr' fuel) :: HL hb mb ws qu ((cb, CB) :: l)) → Q (9, 0, s, ⟨#[]⟩, nil3, fuel, Pt m) aw') : DK35 (Q35 (QR Q m p) E m tb rb (n2 + 1)) E (Pt b1) (Pt b2) (Pt b3) (.panic (raise s)) aw := by
  obtain ⟨bs, bf, sj, fj, M⟩ := H.ex
  have M1 : Hp aw0 own ro aw ((b3, R0) :: (b2, ZB) :: (b1, SB m) :: (m, MB (Pt hb) (Sl fb 1) (Sl gb 8) (Sl bs st.length) (Sl bf fs.length) nil3 fuel 50 10 (.pointer none) nil3 nil3) :: ((rb, R0) :: (tb, R0) :: (bf, FRB fs fj) :: (bs, WB st sj) :: HL hb mb ws qu (RL fb gb p cb nc cc CB l))) := M.perm (by
    classical exact List.perm_iff_count.2 fun a => by simp only [List.count_cons, HL, LL, RL, MCB]; omega)
  refine run_raise0 M1 fun aw1 M2 => ?_
  refine st_x M2 (.there .here) (by repeat constructor) rfl rfl rfl fun aw2 M3 => ?_
  refine run_err (by show (9 : Int) ≠ 0; decide) rfl (M3.front (.there .here)) fun aw3 M5 => ?_
  have M5 : Hp aw0 own ro aw3 ((m, MCB (MX m hb fb gb) nil3 (Sl bf fs.length) fuel) :: (bf, FRB fs fj) :: (bs, WB st sj) :: HL hb mb ws qu (RL fb gb p cb nc cc CB l)) := M5
  have M6 : Hp aw0 own ro aw3 ((bf, FRB fs fj) :: (bs, WB st sj) :: (fb, funB cb nc cc) :: (gb, WB (gw 8) []) :: ((m, MCB (MX m hb fb gb) nil3 (Sl bf fs.length) fuel) :: (p, R0) :: HL hb mb ws qu ((cb, CB) :: l))) := M5.perm (by
    classical exact List.perm_iff_count.2 fun a => by simp only [List.count_cons, HL, LL, RL]; omega)
  exact ret13 rfl ((((M6.drop .here).drop .here).drop .here).drop .here) fun aw'' M3 => hQ _ _ aw'' M3
end
section
variable {aw0 aw : AW} {own : List Nat} {l : List (Nat × Blk)} {t1 t2 : TypeId} {cb : Nat} {E : List PanicEntry → AW → Prop} {Q : (Int × Int × ByteArray × ByteArray × Value × Int × Value) → AW → Prop} {a b : ByteArray}
end
end Go.Proofs.YtfoceofohlpafaaDoor
