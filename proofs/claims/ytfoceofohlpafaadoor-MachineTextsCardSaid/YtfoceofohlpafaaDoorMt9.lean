/- MachineTexts: its four runs. -/
import Derived.Test.YtfoceofohlpafaaDoorMt8
set_option linter.unusedVariables false
set_option linter.unusedSimpArgs false
set_option linter.unusedSectionVars false
set_option maxRecDepth 100000
namespace Go.Proofs.YtfoceofohlpafaaDoor
open Go Go.Am Go.RowKit Go.Ri Go.Proofs.Tryd
abbrev T1C (a b : Value) (n : Int) : List Value := [.int .u8 1, .int .i64 0, .int .i64 0, a, .int .u8 1, .int .i64 0, .int .i64 0, b, .int .u8 20, .int .i64 n, .int .i64 0, .string (⟨#[]⟩ : ByteArray), .int .u8 8, .int .i64 0, .int .i64 0, .string (⟨#[]⟩ : ByteArray)]
abbrev T3C (a b : Value) : List Value := [.int .u8 1, .int .i64 0, .int .i64 0, a, .int .u8 15, .int .i64 0, .int .i64 0, b, .int .u8 8, .int .i64 0, .int .i64 0, .string (⟨#[]⟩ : ByteArray)]
abbrev T4C (a : Value) : List Value := [.int .u8 5, .int .i64 6, .int .i64 0, .string (⟨#[]⟩ : ByteArray), .int .u8 1, .int .i64 0, .int .i64 0, a, .int .u8 7, .int .i64 0, .int .i64 0, .string (⟨#[]⟩ : ByteArray), .int .u8 8, .int .i64 0, .int .i64 0, .string (⟨#[]⟩ : ByteArray)]
theorem chkT1 (t1 t2 : TypeId) : retW (@callN ftW Tryd.prog X0 tab 200 60 21 [.slice (some ⟨6, 0, none⟩) 1 UNK, .int .i64 ((8 : Nat) : Int)] (memR 8 (GR t1 t2 ++ [(6, [.int .i64 0, .slice (some ⟨7, 0, none⟩) 4 4], 43, 2), (7, T1C (.map (some 0)) (.map (some 1)) 9, 34, 4)]))) = true := by kernel_rfl
theorem chkT2 (t1 t2 : TypeId) : retW (@callN ftW Tryd.prog X0 tab 200 60 21 [.slice (some ⟨6, 0, none⟩) 1 UNK, .int .i64 ((8 : Nat) : Int)] (memR 8 (GR t1 t2 ++ [(6, [.int .i64 0, .slice (some ⟨7, 0, none⟩) 4 4], 43, 2), (7, T1C (.map (some 0)) (.map (some 1)) 5, 34, 4)]))) = true := by kernel_rfl
theorem chkT3 (t1 t2 : TypeId) : retW (@callN ftW Tryd.prog X0 tab 200 60 21 [.slice (some ⟨6, 0, none⟩) 1 UNK, .int .i64 ((8 : Nat) : Int)] (memR 8 (GR t1 t2 ++ [(6, [.int .i64 0, .slice (some ⟨7, 0, none⟩) 3 3], 43, 2), (7, T3C (.map (some 0)) (.map (some 1)), 34, 4)]))) = true := by kernel_rfl
theorem chkT4 (t1 t2 : TypeId) : retW (@callN ftW Tryd.prog X0 tab 200 60 21 [.slice (some ⟨6, 0, none⟩) 1 UNK, .int .i64 ((8 : Nat) : Int)] (memR 8 (GR t1 t2 ++ [(6, [.int .i64 0, .slice (some ⟨7, 0, none⟩) 4 4], 43, 2), (7, T4C (.map (some 0)), 34, 4)]))) = true := by kernel_rfl
variable [SymE]
theorem TxtAt.last {ws : List Nat} {s : ByteArray} (h : s.size < 2 ^ 40) : TxtAt (ws ++ txt s) ws.length s := by
  have := TxtAt.new (ws := ws) (r := []) h
  rwa [List.append_nil] at this
theorem txt_len (s : ByteArray) : (txt s).length = 1 + (s.size + 7) / 8 := by simp [txt, tws_len]; omega
section
variable {aw0 aw : AW} {own : List Nat} {ro l : List (Nat × Blk)} {t1 t2 : TypeId} {cb hb mb qu m b1 b2 b3 rb tb fb gb p nc cc k : Nat} {E : List PanicEntry → AW → Prop} {C : List Value} {ws : List Nat} {Q : (Int × Int × ByteArray × ByteArray × Value × Int × Value) → AW → Prop} {a b : ByteArray}
theorem codeL : CodeAt ro (HL hb mb ws qu (LL m b1 b2 b3 rb tb (RL fb gb p cb nc cc ⟨C, 34, 4, true, 0⟩ l))) (Sl fb 1) 0 nc C :=
  ⟨fb, 1, UNK, cb, cc, _, _, _, _, _, rfl, by decide, .inr (.there (.there (.there (.there (.there (.there (.there .here))))))), rfl, .inr (.there (.there (.there (.there (.there (.there (.there (.there (.there (.there .here))))))))))⟩
theorem sbL : At (HL hb mb ws qu (LL m b1 b2 b3 rb tb l)) b1 (SB m) := .there (.there .here)
theorem end13 {CB : Blk} {w n2 : Nat} {fuel : Int} (H : MM aw0 own ro (MX m hb fb gb) ([] ++ [w]) [] fuel (HL hb mb ws qu (LL m b1 b2 b3 rb tb (RL fb gb p cb nc cc CB l))) aw)
    (hQ : ∀ sk' fr' aw', Hp aw0 own ro aw' ((m, MCB (MX m hb fb gb) sk' fr' fuel) :: HL hb mb ws qu ((cb, CB) :: l)) → Q (0, (w : Int), ⟨#[]⟩, ⟨#[]⟩, nil3, fuel, Pt m) aw') : S35_1 (Q35 (QR Q m p) E m tb rb (n2 + 1)) E (k + 1) (Pt b1) (Pt b2) (Pt b3) aw := by
  have H' := H.perm (l' := LL m b1 b2 b3 rb tb (HL hb mb ws qu (RL fb gb p cb nc cc CB l))) (by
    classical exact List.perm_iff_count.2 fun a => by simp only [List.count_cons, HL, LL, RL]; omega)
  refine fin_ok (st := []) (w := w) rfl rfl rfl (by decide) H' fun sk' fr' aw' M' => ?_
  have M2 : Hp aw0 own ro aw' ((fb, funB cb nc cc) :: (gb, WB (gw 8) []) :: ((m, MCB (MX m hb fb gb) sk' fr' fuel) :: (p, R0) :: HL hb mb ws qu ((cb, CB) :: l))) := M'.perm (by
    classical exact List.perm_iff_count.2 fun a => by simp only [List.count_cons, HL, LL, RL]; omega)
  exact ret13 rfl ((M2.drop .here).drop .here) fun aw'' M3 => hQ sk' fr' aw'' M3
theorem endRaise {CB : Blk} {st : List Nat} {fs : List Fr} {n2 : Nat} {fuel : Int} {s : ByteArray} (H : MM aw0 own ro (MX m hb fb gb) st fs fuel (HL hb mb ws qu (LL m b1 b2 b3 rb tb (RL fb gb p cb nc cc CB l))) aw)
    (hQ : ∀ sk' fr' aw', Hp aw0 own ro aw' ((m, MCB (MX m hb fb gb) sk' fr' fuel) :: HL hb mb ws qu ((cb, CB) :: l)) → Q (9, 0, s, ⟨#[]⟩, nil3, fuel, Pt m) aw') : DK35 (Q35 (QR Q m p) E m tb rb (n2 + 1)) E (Pt b1) (Pt b2) (Pt b3) (.panic (raise s)) aw := by
  obtain ⟨bs, bf, sj, fj, M⟩ := H.ex
  have M1 : Hp aw0 own ro aw ((b3, R0) :: (b2, ZB) :: (b1, SB m) :: (m, MB (Pt hb) (Sl fb 1) (Sl gb 8) (Sl bs st.length) (Sl bf fs.length) nil3 fuel 50 10 (.pointer none) nil3 nil3) :: ((rb, R0) :: (tb, R0) :: (bf, FRB fs fj) :: (bs, WB st sj) :: HL hb mb ws qu (RL fb gb p cb nc cc CB l))) := M.perm (by
    classical exact List.perm_iff_count.2 fun a => by simp only [List.count_cons, HL, LL, RL, MCB]; omega)
  refine run_raise0 M1 fun aw1 M2 => ?_
  refine st_x M2 (.there .here) (by repeat constructor) rfl rfl rfl fun aw2 M3 => ?_
  refine run_err (by show (9 : Int) ≠ 0; decide) rfl (M3.front (.there .here)) fun aw3 M5 => ?_
  have M5 : Hp aw0 own ro aw3 ((m, MCB (MX m hb fb gb) nil3 (Sl bf fs.length) fuel) :: (bf, FRB fs fj) :: (bs, WB st sj) :: HL hb mb ws qu (RL fb gb p cb nc cc CB l)) := M5
  have M6 : Hp aw0 own ro aw3 ((bf, FRB fs fj) :: (bs, WB st sj) :: (fb, funB cb nc cc) :: (gb, WB (gw 8) []) :: ((m, MCB (MX m hb fb gb) nil3 (Sl bf fs.length) fuel) :: (p, R0) :: HL hb mb ws qu ((cb, CB) :: l))) := M5.perm (by
    classical exact List.perm_iff_count.2 fun a => by simp only [List.count_cons, HL, LL, RL]; omega)
  exact ret13 rfl ((((M6.drop .here).drop .here).drop .here).drop .here) fun aw'' M3 => hQ _ _ aw'' M3
end
section
variable {aw0 aw : AW} {own : List Nat} {l : List (Nat × Blk)} {t1 t2 : TypeId} {cb : Nat} {E : List PanicEntry → AW → Prop} {Q : (Int × Int × ByteArray × ByteArray × Value × Int × Value) → AW → Prop} {a b : ByteArray}
theorem textRun1 (h0 : SymE.E 0 = .string a) (h1 : SymE.E 1 = .string b) (ha : a.size ≤ 2500) (hb : b.size ≤ 2500) (M : Hp aw0 own (ro0 t1 t2) aw ((cb, ⟨T1C (.string a) (.string b) 9, 34, 4, true, 0⟩) :: l))
    (hL : 4096 < a.size + b.size → ∀ m aw', Hp aw0 own (ro0 t1 t2) aw' l → Q (9, 0, longB, ⟨#[]⟩, nil3, 5, Pt m) aw')
    (hQ : a.size + b.size ≤ 4096 → ∀ m hb mb B ws j aw', TxtAt ws j (a ++ b) → ws.length < 2 ^ 50 → B.cells[0]? = some (Pt hb) → Hp aw0 own (ro0 t1 t2) aw' ((m, B) :: HL hb mb ws 4000 l) → Q (0, ((2 * j : Nat) : Int), ⟨#[]⟩, ⟨#[]⟩, nil3, 5, Pt m) aw') :
    CallP Tryd.prog 13 [.slice (some ⟨cb, 0, none⟩) 4 4, .int .i64 5] aw Tryd.sh13 Q E := by
  refine run13_x M (by decide) (by decide) 1 (by
    have := chk1_x (aw0 := aw0) (own := own) (l := l) (t1 := t1) (t2 := t2) (cb := cb) (nc := 4) (cc := 4) (E := E) (C := T1C (.string a) (.string b) 9) (cj := []) chkT1 rfl (fun ren => by rw [← h0, ← h1]; rfl)
    simpa using this) fun m hb mb gb fb p b1 b2 b3 rb tb aw5 H => ⟨4 + 1, ?_⟩
  have hl : (hw 8).length = 16 := rfl
  have hla := txt_len a
  have hlb := txt_len b
  refine mm_text (fs := []) (pc := 0) (s := a) H (codeL.ins (by decide) (by decide) rfl) sbL (by decide) (by decide) (by omega) (by decide) (by rw [hl]; omega) fun mb1 aw6 H1 => ?_
  have hl1 : (hw 8 ++ txt a).length = 16 + (1 + (a.size + 7) / 8) := by rw [List.length_append, hl, hla]
  refine mm_text (fs := []) (pc := 1) (s := b) H1 (codeL.ins (by decide) (by decide) rfl) sbL (by decide) (by decide) (by omega) (by decide) (by rw [hl1]; omega) fun mb2 aw7 H2 => ?_
  have hl2 : (hw 8 ++ txt a ++ txt b).length = 16 + (1 + (a.size + 7) / 8) + (1 + (b.size + 7) / 8) := by rw [List.length_append, hl1, hlb]
  by_cases hs : a.size + b.size ≤ 4096
  · refine mm_cat (fs := []) (pc := 2) (s := a) (t := b) (st := [WN 0, WN 0]) H2 (codeL.ins (by decide) (by decide) rfl) sbL (by decide) (by decide) (TxtAt.new (by omega)) (TxtAt.last (by omega)) (by decide) (by omega) hs (by rw [hl2]; omega) fun mb3 aw8 H3 => ?_
    refine mm_ret (fs := []) (pc := 3) H3 (codeL.ins (by decide) (by decide) rfl) sbL (by decide) (by decide) (by decide) (by decide) fun aw9 H4 => ?_
    have e5 : (a ++ b).size = a.size + b.size := ByteArray.size_append
    refine end13 (k := 0) (n2 := 0) H4 fun sk' fr' aw' M' => ?_
    have hlab : (hw 8 ++ txt a ++ txt b ++ txt (a ++ b)).length < 2 ^ 50 := by rw [List.length_append, hl2, txt_len]; omega
    refine hQ hs m hb mb3 (MCB (MX m hb fb gb) sk' fr' 5) _ _ aw' (TxtAt.last (by omega)) hlab rfl ?_
    have M2 : Hp aw0 own (ro0 t1 t2) aw' ((cb, ⟨T1C (.string a) (.string b) 9, 34, 4, true, 0⟩) :: ((m, MCB (MX m hb fb gb) sk' fr' 5) :: HL hb mb3 (hw 8 ++ txt a ++ txt b ++ txt (a ++ b)) 4000 l)) := M'.perm (by
      classical exact List.perm_iff_count.2 fun a => by simp only [List.count_cons, HL]; omega)
    exact M2.drop .here
  · refine mm_cat_long (fs := []) (pc := 2) (s := a) (t := b) (st := [WN 0, WN 0]) H2 (codeL.ins (by decide) (by decide) rfl) sbL (by decide) (by decide) (TxtAt.new (by omega)) (TxtAt.last (by omega)) (by omega) (by omega) fun aw8 H3 => ?_
    refine endRaise (n2 := 0) H3 fun sk' fr' aw' M' => hL (by omega) m aw' ?_
    exact ((M'.drop .here).drop .here).drop .here |>.drop .here
theorem textRun2 (h0 : SymE.E 0 = .string a) (h1 : SymE.E 1 = .string b) (ha : a.size ≤ 2500) (hb : b.size ≤ 2500) (M : Hp aw0 own (ro0 t1 t2) aw ((cb, ⟨T1C (.string a) (.string b) 5, 34, 4, true, 0⟩) :: l))
    (hQ : ∀ m aw', Hp aw0 own (ro0 t1 t2) aw' l → Q (0, ((WN (if a = b then 1 else 0) : Nat) : Int), ⟨#[]⟩, ⟨#[]⟩, nil3, 4, Pt m) aw') :
    CallP Tryd.prog 13 [.slice (some ⟨cb, 0, none⟩) 4 4, .int .i64 5] aw Tryd.sh13 Q E := by
  refine run13_x M (by decide) (by decide) 1 (by
    have := chk1_x (aw0 := aw0) (own := own) (l := l) (t1 := t1) (t2 := t2) (cb := cb) (nc := 4) (cc := 4) (E := E) (C := T1C (.string a) (.string b) 5) (cj := []) chkT2 rfl (fun ren => by rw [← h0, ← h1]; rfl)
    simpa using this) fun m hb mb gb fb p b1 b2 b3 rb tb aw5 H => ⟨4 + 1, ?_⟩
  have hl : (hw 8).length = 16 := rfl
  have hla := txt_len a
  have hlb := txt_len b
  refine mm_text (fs := []) (pc := 0) (s := a) H (codeL.ins (by decide) (by decide) rfl) sbL (by decide) (by decide) (by omega) (by decide) (by rw [hl]; omega) fun mb1 aw6 H1 => ?_
  have hl1 : (hw 8 ++ txt a).length = 16 + (1 + (a.size + 7) / 8) := by rw [List.length_append, hl, hla]
  refine mm_text (fs := []) (pc := 1) (s := b) H1 (codeL.ins (by decide) (by decide) rfl) sbL (by decide) (by decide) (by omega) (by decide) (by rw [hl1]; omega) fun mb2 aw7 H2 => ?_
  have hl2 : (hw 8 ++ txt a ++ txt b).length = 16 + (1 + (a.size + 7) / 8) + (1 + (b.size + 7) / 8) := by rw [List.length_append, hl1, hlb]
  refine mm_eqT (fs := []) (pc := 2) (s1 := a) (t1 := b) (st := [WN 0, WN 0]) H2 (codeL.ins (by decide) (by decide) rfl) sbL (by decide) (by decide) (TxtAt.new (by omega)) (TxtAt.last (by omega)) (by omega) (by decide) (by decide) fun aw8 H3 => ?_
  refine mm_ret (fs := []) (pc := 3) H3 (codeL.ins (by decide) (by decide) rfl) sbL (by decide) (by decide) (by decide) (by decide) fun aw9 H4 => ?_
  refine end13 (k := 0) (n2 := 0) H4 fun sk' fr' aw' M' => hQ m aw' ?_
  exact ((M'.drop .here).drop .here).drop .here |>.drop .here
theorem textRun3 (h0 : SymE.E 0 = .string a) (h1 : SymE.E 1 = .string b) (ha : a.size ≤ 2500) (hb : b.size ≤ 2500) (M : Hp aw0 own (ro0 t1 t2) aw ((cb, ⟨T3C (.string a) (.string b), 34, 4, true, 0⟩) :: l))
    (hQ : ∀ m aw', Hp aw0 own (ro0 t1 t2) aw' l → Q (0, ((WN (if a = b then 1 else 0) : Nat) : Int), ⟨#[]⟩, ⟨#[]⟩, nil3, 5, Pt m) aw') :
    CallP Tryd.prog 13 [.slice (some ⟨cb, 0, none⟩) 3 3, .int .i64 5] aw Tryd.sh13 Q E := by
  refine run13_x M (by decide) (by decide) 1 (by
    have := chk1_x (aw0 := aw0) (own := own) (l := l) (t1 := t1) (t2 := t2) (cb := cb) (nc := 3) (cc := 3) (E := E) (C := T3C (.string a) (.string b)) (cj := []) chkT3 rfl (fun ren => by rw [← h0, ← h1]; rfl)
    simpa using this) fun m hb mb gb fb p b1 b2 b3 rb tb aw5 H => ⟨3 + 1, ?_⟩
  have hl : (hw 8).length = 16 := rfl
  have hla := txt_len a
  refine mm_text (fs := []) (pc := 0) (s := a) H (codeL.ins (by decide) (by decide) rfl) sbL (by decide) (by decide) (by omega) (by decide) (by rw [hl]; omega) fun mb1 aw6 H1 => ?_
  have hl1 : (hw 8 ++ txt a).length = 16 + (1 + (a.size + 7) / 8) := by rw [List.length_append, hl, hla]
  refine mm_istext (fs := []) (pc := 1) (s := a) (t := b) (st := [WN 0, WN 0]) H1 (codeL.ins (by decide) (by decide) rfl) sbL (by decide) (by decide) (TxtAt.last (by omega)) (by omega) fun aw8 H3 => ?_
  refine mm_ret (fs := []) (pc := 2) H3 (codeL.ins (by decide) (by decide) rfl) sbL (by decide) (by decide) (by decide) (by decide) fun aw9 H4 => ?_
  refine end13 (k := 0) (n2 := 0) H4 fun sk' fr' aw' M' => hQ m aw' ?_
  exact ((M'.drop .here).drop .here).drop .here |>.drop .here
theorem textRun4 (h0 : SymE.E 0 = .string a) (ha : a.size ≤ 2500) (M : Hp aw0 own (ro0 t1 t2) aw ((cb, ⟨T4C (.string a), 34, 4, true, 0⟩) :: l))
    (hQ : ∀ m aw', Hp aw0 own (ro0 t1 t2) aw' l → Q (0, ((WN (a.size : Int) : Nat) : Int), ⟨#[]⟩, ⟨#[]⟩, nil3, 4, Pt m) aw') :
    CallP Tryd.prog 13 [.slice (some ⟨cb, 0, none⟩) 4 4, .int .i64 5] aw Tryd.sh13 Q E := by
  refine run13_x M (by decide) (by decide) 1 (by
    have := chk1_x (aw0 := aw0) (own := own) (l := l) (t1 := t1) (t2 := t2) (cb := cb) (nc := 4) (cc := 4) (E := E) (C := T4C (.string a)) (cj := []) chkT4 rfl (fun ren => by rw [← h0]; rfl)
    simpa using this) fun m hb mb gb fb p b1 b2 b3 rb tb aw5 H => ⟨4 + 1, ?_⟩
  have hl : (hw 8).length = 16 := rfl
  have hla := txt_len a
  refine mm_glob (fs := []) (pc := 0) (i := 6) (w := 24) (gs := gw 8) H (codeL.ins (by decide) (by decide) rfl) sbL (by decide) (by decide) rfl (.there (.there (.there (.there (.there (.there (.there (.there .here)))))))) rfl rfl fun aw6 H1 => ?_
  refine mm_text (fs := []) (pc := 1) (s := a) H1 (codeL.ins (by decide) (by decide) rfl) sbL (by decide) (by decide) (by omega) (by decide) (by rw [hl]; omega) fun mb1 aw7 H2 => ?_
  have hl1 : (hw 8 ++ txt a).length = 16 + (1 + (a.size + 7) / 8) := by rw [List.length_append, hl, hla]
  refine mm_len (fs := []) (pc := 2) (j := 12) (s := a) (st := [WN 0, WN 0]) H2 (codeL.ins (by decide) (by decide) rfl) sbL (by decide) (by decide) (by decide) (by decide) ?_ ?_ (TxtAt.last (by omega)) (by omega) fun aw8 H3 => ?_
  · rw [List.getElem?_append_left (by rw [hl]; decide)]; rfl
  · rw [List.getElem?_append_left (by rw [hl]; decide)]; rfl
  refine mm_ret (fs := []) (pc := 3) H3 (codeL.ins (by decide) (by decide) rfl) sbL (by decide) (by decide) (by decide) (by decide) fun aw9 H4 => ?_
  refine end13 (k := 0) (n2 := 0) H4 fun sk' fr' aw' M' => hQ m aw' ?_
  exact ((M'.drop .here).drop .here).drop .here |>.drop .here
end
end Go.Proofs.YtfoceofohlpafaaDoor
