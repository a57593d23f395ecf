/- machine: an exception is caught by the last open try. -/
import Derived.Test.YtfoceofohlpafaaDoorMt9
set_option linter.unusedVariables false
set_option linter.unusedSimpArgs false
set_option linter.unusedSectionVars false
namespace Go.Proofs.Tryd
open Go Go.Am Go.RowKit
variable [SymE]
set_option maxHeartbeats 1000000
abbrev TB (a b c : Nat) : Blk := ⟨[.int .i64 (a : Int), .int .i64 (b : Int), .int .i64 (c : Int)], 132, 3, true, 0⟩
theorem W_junk (st st2 : List Nat) (sj : List Value) : WB (st ++ st2) sj = WB st (st2.map W ++ sj) := by simp [WB]
section
variable {aw0 aw : AW} {own : List Nat} {ro l : List (Nat × Blk)} {m bs bf tb hb mb qu f pc base at_ k : Nat} {fu gl ad bu mo : Value} {fuel space most : Int} {st st2 ws : List Nat} {fs fj sj : List Value} {E : List PanicEntry → AW → Prop} {s : ByteArray}
theorem caught1 {Q : (Bool × Int × Int × ByteArray × ByteArray × Value × Int) → AW → Prop} (hk : fs.length = k * 3) (hk' : k < 2 ^ 39) (hst : st.length < 2 ^ 39) (hs : s.size ≤ 4096) (hq : qu < 2 ^ 30) (hroom : ws.length + (1 + (s.size + 7) / 8) ≤ qu)
    (M : Hp aw0 own ro aw ((m, MB (Pt hb) fu gl (Sl bs (st ++ st2).length) (Sl bf (k + 1)) (Sl tb 1) fuel space most ad bu mo) :: (tb, TB (k + 1) st.length at_) :: (bf, FB fs f pc base fj) :: (bs, WB (st ++ st2) sj) :: HL hb mb ws qu l))
    (hQ : ∀ bs' mb' aw', Hp aw0 own ro aw' ((m, MB (Pt hb) fu gl (Sl bs' (st ++ [2 * ws.length]).length) (Sl bf (k + 1)) (Sl tb 0) fuel space most ad bu mo) :: (bs', WB (st ++ [2 * ws.length]) []) :: (tb, TB (k + 1) st.length at_) :: (bf, FB fs f at_ base fj) :: HL hb mb' (ws ++ txt s) qu l) → Q (true, 0, 0, ⟨#[]⟩, ⟨#[]⟩, nil3, 0) aw') :
    CallP prog 57 [Pt m, .string s] aw sh57 Q E := by
  refine F57_ok _ _ aw ?_
  unfold S57_0
  refine alc_x M fun rb aw1 M1 => ?_
  refine nck_x (fldA_x (ldV_x (M1.im (.there .here)) (by repeat constructor) (slen_x (cnd_0x rfl ?_))))
  refine nck_x (fldA_x (ldV_x (M1.im (.there .here)) (by repeat constructor) (nck_x (fldA_x (ldV_x (M1.im (.there .here)) (by repeat constructor) (slen_x ?_))))))
  rw [show IntKind.i64.wrap (((1 : Nat) : Int) - 1) = 0 from rfl]
  refine ixS_x (by decide) (by decide) (ptr_x (gI_x (M1.im (.there (.there .here))) (by repeat constructor) (gI_x (M1.im (.there (.there .here))) (by repeat constructor) (gI_x (M1.im (.there (.there .here))) (by repeat constructor) ?_))))
  refine alc_x M1 fun pb aw2 M2 => again_x (M2.im (.there (.there .here))) (by repeat constructor) (again_x (M2.im (.there (.there .here))) (by repeat constructor) (get_x (M2.im (.there (.there (.there .here)))) (by repeat constructor) (get_x (M2.im (.there (.there (.there .here)))) (by repeat constructor) (get_x (M2.im (.there (.there (.there .here)))) (by repeat constructor) ?_))))
  refine st_x M2 (by repeat constructor) (by repeat constructor) rfl rfl rfl fun aw3 M3 => ?_
  refine nck_x (fldA_x (ldV_x (M3.im (.there (.there .here))) (by repeat constructor) (nck_x (fldA_x (ldV_x (M3.im (.there (.there .here))) (by repeat constructor) (slen_x ?_))))))
  rw [show IntKind.i64.wrap (((1 : Nat) : Int) - 1) = 0 from rfl]
  refine cutV_x (a := 0) (d := 0) rfl rfl (Nat.zero_le _) (by decide) (M3.im (.there (.there (.there .here)))) rfl ?_
  refine nck_x (fldA_x (st_x M3 (by repeat constructor) (by repeat constructor) rfl rfl rfl fun aw4 M4 => ?_))
  refine nck_x (fldA_x (ldV_x (M4.im (.there (.there .here))) (by repeat constructor) (fldA_x (ldI_x (M4.im .here) (by repeat constructor) ?_))))
  refine cutV_x (a := 0) (d := k + 1) rfl rfl (Nat.zero_le _) (Nat.le_refl _) (M4.im (.there (.there (.there (.there .here))))) rfl ?_
  refine nck_x (fldA_x (ldV_x (M4.im (.there (.there .here))) (by repeat constructor) (fldA_x (ldI_x (M4.im .here) (by repeat constructor) ?_))))
  refine cutV_x (a := 0) (d := st.length) rfl rfl (Nat.zero_le _) (by simp) (M4.im (.there (.there (.there (.there (.there .here)))))) rfl ?_
  refine nck_x (fldA_x (st_x M4 (by repeat constructor) (by repeat constructor) rfl rfl rfl fun aw5 M5 => ?_))
  refine again_x (M5.im .here) (by repeat constructor) ⟨cut_x (a := 0) (d := st.length) rfl rfl (Nat.zero_le _) (by simp) (M5.im (.there (.there (.there (.there (.there .here)))))) rfl, ?_⟩
  refine nck_x (fldA_x (st_x M5 (by repeat constructor) (by repeat constructor) rfl rfl rfl fun aw6 M6 => ?_))
  refine nck_x (fldA_x (ldV_x (M6.im (.there (.there .here))) (by repeat constructor) (fldA_x (ldI_x (M6.im .here) (by repeat constructor) (fldA_x (ldI_x (M6.im .here) (by repeat constructor) ?_))))))
  rw [show IntKind.i64.wrap (((k + 1 : Nat) : Int) - 1) = ((k : Nat) : Int) by rw [show ((k + 1 : Nat) : Int) - 1 = ((k : Nat) : Int) by omega, i64_nat (by omega)]]
  refine ixS_x (by omega) (by omega) (fldA_x ?_)
  rw [show 0 + 0 * 3 + ((k : Nat) : Int).toNat * 3 + 1 = k * 3 + 1 by omega]
  have hp : Put (FB fs f pc base fj).cells (k * 3 + 1) [.int .i64 (at_ : Int)] (FB fs f at_ base fj).cells := by
    have := put_app (Put.skip (c := .int .i64 (f : Int)) (Put.cons (c := .int .i64 (pc : Int)) (v := .int .i64 (at_ : Int)) (Put.nil (r := [.int .i64 (base : Int)] ++ fj)))) fs
    rw [hk, Nat.zero_add] at this
    simpa only [FB, List.append_assoc, List.cons_append, List.nil_append] using this
  refine st_x M6 (by repeat constructor) hp rfl rfl rfl fun aw7 M7 => ?_
  have M8 : Hp aw0 own ro aw7 ((rb, R0) :: (m, MB (Pt hb) fu gl (Sl bs st.length) (Sl bf (k + 1)) (Sl tb 0) fuel space most ad bu mo) :: (tb, TB (k + 1) st.length at_) :: (bf, FB fs f at_ base fj) :: (bs, WB (st ++ st2) sj) :: HL hb mb ws qu l) := M7.drop .here
  rw [W_junk] at M8
  refine need_x (kind := 3) (k := s.size) (by omega) (by omega) ?_
  rw [if_pos rfl]
  have M9 := (M8.front (.there (.there (.there (.there (.there .here)))))).front (.there (.there .here))
  refine room_x M9 (by omega) hroom (cnd_0x rfl (nck_x (fldA_x (ldV_x (M9.im .here) (by constructor) ?_))))
  have M10 : Hp aw0 own ro aw7 ([(mb, WB ws [])] ++ (hb, HB (Sl mb ws.length) (qu : Int) 0) :: ((rb, R0) :: (m, MB (Pt hb) fu gl (Sl bs st.length) (Sl bf (k + 1)) (Sl tb 0) fuel space most ad bu mo) :: (tb, TB (k + 1) st.length at_) :: (bf, FB fs f at_ base fj) :: (bs, WB st (st2.map W ++ sj)) :: l)) :=
    M8.perm (by classical exact List.perm_iff_count.2 fun a => by simp only [List.count_append, List.count_cons, List.count_nil, HL]; omega)
  refine puttext_x slP_W M10 (by omega) hq hroom fun mb' aw8 M11 => ?_
  have e : ws ++ [s.size * 2 ^ 8 + 3] ++ tws s 0 ((s.size + 7) / 8) = ws ++ txt s := by simp
  rw [e] at M11
  have M12 : Hp aw0 own ro aw8 ((m, MB (Pt hb) fu gl (Sl bs st.length) (Sl bf (k + 1)) (Sl tb 0) fuel space most ad bu mo) :: (bs, WB st (st2.map W ++ sj)) :: ((rb, R0) :: (tb, TB (k + 1) st.length at_) :: (bf, FB fs f at_ base fj) :: HL hb mb' (ws ++ txt s) qu l)) :=
    M11.perm (by classical exact List.perm_iff_count.2 fun a => by simp only [List.count_append, List.count_cons, List.count_nil, HL]; omega)
  refine push_x M12 (by omega) fun bs' aw9 M13 => ?_
  refine ptr_x (gI_x (M13.im (.there (.there .here))) (by repeat constructor) (gI_x (M13.im (.there (.there .here))) (by repeat constructor) (gS_x (M13.im (.there (.there .here))) (by repeat constructor) (gS_x (M13.im (.there (.there .here))) (by repeat constructor) (gV_x (M13.im (.there (.there .here))) (by repeat constructor) (gI_x (M13.im (.there (.there .here))) (by repeat constructor) ?_))))))
  refine st_x M13 (by repeat constructor) (by repeat constructor) rfl rfl rfl fun aw10 M14 => ?_
  refine ptr_x (gI_x (M14.im (.there (.there .here))) (by repeat constructor) (gI_x (M14.im (.there (.there .here))) (by repeat constructor) (gS_x (M14.im (.there (.there .here))) (by repeat constructor) (gS_x (M14.im (.there (.there .here))) (by repeat constructor) (gV_x (M14.im (.there (.there .here))) (by repeat constructor) (gI_x (M14.im (.there (.there .here))) (by repeat constructor) ?_))))))
  exact hQ bs' mb' aw10 (M14.drop (.there (.there .here)))
end
end Go.Proofs.Tryd
set_option linter.unusedVariables false
set_option linter.unusedSimpArgs false
set_option linter.unusedSectionVars false
namespace Go.Proofs.Tryd
open Go Go.Am Go.RowKit
variable [SymE]
set_option maxHeartbeats 1000000
section
variable {aw0 aw : AW} {own : List Nat} {ro l : List (Nat × Blk)} {m hb mb qu f pc base at_ ty b1 b2 b3 rb tb n2 : Nat} {X : MC} {fuel : Int} {st st2 ws : List Nat} {fs : List Fr} {E : List PanicEntry → AW → Prop} {s : ByteArray} {Q : (Int × Int × ByteArray × ByteArray × Value × Int) → AW → Prop}
theorem mm_caught (hX : X.m = m) (hX2 : X.hb = hb) (htr : X.tr = Sl ty 1) (hfl : fs.length < 2 ^ 39) (hst : st.length < 2 ^ 39) (hs : s.size ≤ 4096) (hq : qu < 2 ^ 30) (hroom : ws.length + (1 + (s.size + 7) / 8) ≤ qu)
    (H : MM aw0 own ro X (st ++ st2) (fs ++ [(f, pc, base)]) fuel ((ty, TB (fs.length + 1) st.length at_) :: HL hb mb ws qu (LL m b1 b2 b3 rb tb l)) aw)
    (hK : ∀ b1 b2 b3 mb' aw', MM aw0 own ro { X with tr := Sl ty 0 } (st ++ [2 * ws.length]) (fs ++ [(f, at_, base)]) fuel ((ty, TB (fs.length + 1) st.length at_) :: HL hb mb' (ws ++ txt s) qu (LL m b1 b2 b3 rb tb l)) aw' → ∃ k, S35_1 (Q35 Q E m tb rb n2) E k (Pt b1) (Pt b2) (Pt b3) aw') :
    DK35 (Q35 Q E m tb rb (n2 + 1)) E (Pt b1) (Pt b2) (Pt b3) (.panic (raise s)) aw := by
  obtain ⟨m', hb', fu, gl, tr', ad, bu, mo, space, most⟩ := X
  simp only at hX hX2 htr
  subst hX; subst hX2; subst htr
  obtain ⟨bs, bf, sj, fj, M⟩ := H.ex
  rw [FRB_snoc, show (fs ++ [(f, pc, base)]).length = fs.length + 1 by simp] at M
  have M0 : Hp aw0 own ro aw ((m', MB (Pt hb') fu gl (Sl bs (st ++ st2).length) (Sl bf (fs.length + 1)) (Sl ty 1) fuel space most ad bu mo) :: (ty, TB (fs.length + 1) st.length at_) :: (bf, FB (frC fs) f pc base fj) :: (bs, WB (st ++ st2) sj) :: HL hb' mb ws qu ((b3, R0) :: (b2, ZB) :: (b1, SB m') :: (rb, R0) :: (tb, R0) :: l)) := M.perm (by
    classical exact List.perm_iff_count.2 fun a => by simp only [List.count_cons, HL, LL, MCB]; omega)
  unfold DK35 DefK
  refine F56_okD _ _ _ _ aw ?_
  unfold S56_0
  show nilB _ (.iface 116 (.agg #[.string s])) _ _
  refine nilB_x rfl rfl (cnd_0x rfl ?_)
  refine tyQ_nx (q := 116) rfl (by decide) ?_
  refine tyQ_yx rfl ⟨s, rfl, ?_⟩
  refine alc_x M0 fun b aw1 M1 => ?_
  refine st_x M1 .here (by repeat constructor) rfl rfl rfl fun aw2 M2 => ?_
  refine ldV_x (M2.im (.there (.there (.there (.there (.there (.there (.there (.there (.there .here)))))))))) (by constructor) (fldA_x (ldS_x (M2.im .here) (by constructor) ?_))
  have M3 : Hp aw0 own ro aw2 ((m', MB (Pt hb') fu gl (Sl bs (st ++ st2).length) (Sl bf (fs.length + 1)) (Sl ty 1) fuel space most ad bu mo) :: (ty, TB (fs.length + 1) st.length at_) :: (bf, FB (frC fs) f pc base fj) :: (bs, WB (st ++ st2) sj) :: HL hb' mb ws qu ((b3, R0) :: (b2, ZB) :: (b1, SB m') :: (rb, R0) :: (tb, R0) :: l)) := M2.drop .here
  refine caught1 (frC_len fs) hfl hst hs hq hroom M3 fun bs' mb' aw3 M4 => ?_
  have M5 : Hp aw0 own ro aw3 ((b3, R0) :: (b2, ZB) :: (b1, SB m') :: ((m', MB (Pt hb') fu gl (Sl bs' (st ++ [2 * ws.length]).length) (Sl bf (fs.length + 1)) (Sl ty 0) fuel space most ad bu mo) :: (bs', WB (st ++ [2 * ws.length]) []) :: (ty, TB (fs.length + 1) st.length at_) :: (bf, FB (frC fs) f at_ base fj) :: HL hb' mb' (ws ++ txt s) qu ((rb, R0) :: (tb, R0) :: l))) := M4.perm (by
    classical exact List.perm_iff_count.2 fun a => by simp only [List.count_cons, HL, LL, MCB]; omega)
  refine st_x M5 (.there .here) (by repeat constructor) rfl rfl rfl fun aw4 M6 => ?_
  refine st_x M6 .here (by repeat constructor) rfl rfl rfl fun aw5 M7 => ?_
  show ptr _ _
  refine ptr_x (gB_x (M7.im (.there .here)) (by constructor) (ptr_x (gI_x (M7.im .here) (by repeat constructor) (gI_x (M7.im .here) (by repeat constructor) (gS_x (M7.im .here) (by repeat constructor) (gS_x (M7.im .here) (by repeat constructor) (gV_x (M7.im .here) (by repeat constructor) (gI_x (M7.im .here) (by repeat constructor) ?_))))))))
  have M8 : Hp aw0 own ro aw5 ((rb, R0) :: (m', MB (Pt hb') fu gl (Sl bs' (st ++ [2 * ws.length]).length) (Sl bf (fs.length + 1)) (Sl ty 0) fuel space most ad bu mo) :: (bs', WB (st ++ [2 * ws.length]) []) :: (ty, TB (fs.length + 1) st.length at_) :: (bf, FB (frC fs) f at_ base fj) :: HL hb' mb' (ws ++ txt s) qu ((tb, R0) :: l)) := (((M7.drop .here).drop .here).drop .here).perm (by
    classical exact List.perm_iff_count.2 fun a => by simp only [List.count_cons, HL, LL, MCB]; omega)
  refine st_x M8 .here (by repeat constructor) rfl rfl rfl fun aw6 M9 => ?_
  show S17_2s _ E (S17_2 _ E n2) _ _ _ _ aw6
  unfold S17_2s
  refine cnd_1x rfl ?_
  refine F35_ok _ aw6 ?_
  unfold S35_0
  refine ⟨rfl, alc_x M9 fun c1 aw7 M10 => alc_x M10 fun c2 aw8 M11 => alc_x M11 fun c3 aw9 M12 => ?_⟩
  refine hK c1 c2 c3 mb' aw9 ⟨bs', bf, [], fj, ?_⟩
  rw [FRB_snoc, show (fs ++ [(f, at_, base)]).length = fs.length + 1 by simp]
  have M13 : Hp aw0 own ro aw9 ((c3, R0) :: (c2, ZB) :: (c1, SB m') :: (rb, R0) :: (m', MB (Pt hb') fu gl (Sl bs' (st ++ [2 * ws.length]).length) (Sl bf (fs.length + 1)) (Sl ty 0) fuel space most ad bu mo) :: (bs', WB (st ++ [2 * ws.length]) []) :: (ty, TB (fs.length + 1) st.length at_) :: (bf, FB (frC fs) f at_ base fj) :: HL hb' mb' (ws ++ txt s) qu ((tb, R0) :: l)) := M12
  exact M13.perm (by
    classical exact List.perm_iff_count.2 fun a => by simp only [List.count_cons, HL, LL, MCB]; omega)
end
end Go.Proofs.Tryd
set_option linter.unusedVariables false
set_option linter.unusedSimpArgs false
set_option linter.unusedSectionVars false
set_option maxRecDepth 100000
namespace Go.Proofs.YtfoceofohlpafaaDoor
open Go Go.Am Go.RowKit Go.Ri Go.Proofs.Tryd
abbrev RC0 (n s : Value) : List Value := [.int .u8 24, .int .i64 4, .int .i64 0, .string (⟨#[]⟩ : ByteArray), .int .u8 0, n, .int .i64 0, .string (⟨#[]⟩ : ByteArray), .int .u8 0, n, .int .i64 0, .string (⟨#[]⟩ : ByteArray), .int .u8 26, .int .i64 0, .int .i64 0, s, .int .u8 8, .int .i64 0, .int .i64 0, .string (⟨#[]⟩ : ByteArray)]
theorem chkR0 (t1 t2 : TypeId) : retW (@callN ftW Tryd.prog X0 tab 200 60 21 [.slice (some ⟨6, 0, none⟩) 1 UNK, .int .i64 ((8 : Nat) : Int)] (memR 8 (GR t1 t2 ++ [(6, [.int .i64 0, .slice (some ⟨7, 0, none⟩) 5 UNK], 43, 2), (7, RC0 (.map (some 0)) (.map (some 1)), 34, 4)]))) = true := by kernel_rfl
abbrev RC1 (n s : Value) : List Value := [.int .u8 0, .int .i64 0, .int .i64 0, .string (⟨#[]⟩ : ByteArray), .int .u8 24, .int .i64 5, .int .i64 0, .string (⟨#[]⟩ : ByteArray), .int .u8 0, n, .int .i64 0, .string (⟨#[]⟩ : ByteArray), .int .u8 0, n, .int .i64 0, .string (⟨#[]⟩ : ByteArray), .int .u8 26, .int .i64 0, .int .i64 0, s, .int .u8 18, .int .i64 1, .int .i64 0, .string (⟨#[]⟩ : ByteArray), .int .u8 8, .int .i64 0, .int .i64 0, .string (⟨#[]⟩ : ByteArray)]
theorem chkR1 (t1 t2 : TypeId) : retW (@callN ftW Tryd.prog X0 tab 200 60 21 [.slice (some ⟨6, 0, none⟩) 1 UNK, .int .i64 ((8 : Nat) : Int)] (memR 8 (GR t1 t2 ++ [(6, [.int .i64 0, .slice (some ⟨7, 0, none⟩) 7 UNK], 43, 2), (7, RC1 (.map (some 0)) (.map (some 1)), 34, 4)]))) = true := by kernel_rfl
abbrev RC2 (n s : Value) : List Value := [.int .u8 0, .int .i64 0, .int .i64 0, .string (⟨#[]⟩ : ByteArray), .int .u8 0, .int .i64 1, .int .i64 0, .string (⟨#[]⟩ : ByteArray), .int .u8 24, .int .i64 6, .int .i64 0, .string (⟨#[]⟩ : ByteArray), .int .u8 0, n, .int .i64 0, .string (⟨#[]⟩ : ByteArray), .int .u8 0, n, .int .i64 0, .string (⟨#[]⟩ : ByteArray), .int .u8 26, .int .i64 0, .int .i64 0, s, .int .u8 18, .int .i64 2, .int .i64 0, .string (⟨#[]⟩ : ByteArray), .int .u8 8, .int .i64 0, .int .i64 0, .string (⟨#[]⟩ : ByteArray)]
theorem chkR2 (t1 t2 : TypeId) : retW (@callN ftW Tryd.prog X0 tab 200 60 21 [.slice (some ⟨6, 0, none⟩) 1 UNK, .int .i64 ((8 : Nat) : Int)] (memR 8 (GR t1 t2 ++ [(6, [.int .i64 0, .slice (some ⟨7, 0, none⟩) 8 UNK], 43, 2), (7, RC2 (.map (some 0)) (.map (some 1)), 34, 4)]))) = true := by kernel_rfl
abbrev RC3 (n s : Value) : List Value := [.int .u8 0, .int .i64 0, .int .i64 0, .string (⟨#[]⟩ : ByteArray), .int .u8 0, .int .i64 1, .int .i64 0, .string (⟨#[]⟩ : ByteArray), .int .u8 0, .int .i64 2, .int .i64 0, .string (⟨#[]⟩ : ByteArray), .int .u8 24, .int .i64 7, .int .i64 0, .string (⟨#[]⟩ : ByteArray), .int .u8 0, n, .int .i64 0, .string (⟨#[]⟩ : ByteArray), .int .u8 0, n, .int .i64 0, .string (⟨#[]⟩ : ByteArray), .int .u8 26, .int .i64 0, .int .i64 0, s, .int .u8 18, .int .i64 3, .int .i64 0, .string (⟨#[]⟩ : ByteArray), .int .u8 8, .int .i64 0, .int .i64 0, .string (⟨#[]⟩ : ByteArray)]
theorem chkR3 (t1 t2 : TypeId) : retW (@callN ftW Tryd.prog X0 tab 200 60 21 [.slice (some ⟨6, 0, none⟩) 1 UNK, .int .i64 ((8 : Nat) : Int)] (memR 8 (GR t1 t2 ++ [(6, [.int .i64 0, .slice (some ⟨7, 0, none⟩) 9 UNK], 43, 2), (7, RC3 (.map (some 0)) (.map (some 1)), 34, 4)]))) = true := by kernel_rfl
abbrev RC4 (n s : Value) : List Value := [.int .u8 0, .int .i64 0, .int .i64 0, .string (⟨#[]⟩ : ByteArray), .int .u8 0, .int .i64 1, .int .i64 0, .string (⟨#[]⟩ : ByteArray), .int .u8 0, .int .i64 2, .int .i64 0, .string (⟨#[]⟩ : ByteArray), .int .u8 0, .int .i64 3, .int .i64 0, .string (⟨#[]⟩ : ByteArray), .int .u8 24, .int .i64 8, .int .i64 0, .string (⟨#[]⟩ : ByteArray), .int .u8 0, n, .int .i64 0, .string (⟨#[]⟩ : ByteArray), .int .u8 0, n, .int .i64 0, .string (⟨#[]⟩ : ByteArray), .int .u8 26, .int .i64 0, .int .i64 0, s, .int .u8 18, .int .i64 4, .int .i64 0, .string (⟨#[]⟩ : ByteArray), .int .u8 8, .int .i64 0, .int .i64 0, .string (⟨#[]⟩ : ByteArray)]
theorem chkR4 (t1 t2 : TypeId) : retW (@callN ftW Tryd.prog X0 tab 200 60 21 [.slice (some ⟨6, 0, none⟩) 1 UNK, .int .i64 ((8 : Nat) : Int)] (memR 8 (GR t1 t2 ++ [(6, [.int .i64 0, .slice (some ⟨7, 0, none⟩) 10 UNK], 43, 2), (7, RC4 (.map (some 0)) (.map (some 1)), 34, 4)]))) = true := by kernel_rfl
abbrev RC5 (n s : Value) : List Value := [.int .u8 0, .int .i64 0, .int .i64 0, .string (⟨#[]⟩ : ByteArray), .int .u8 0, .int .i64 1, .int .i64 0, .string (⟨#[]⟩ : ByteArray), .int .u8 0, .int .i64 2, .int .i64 0, .string (⟨#[]⟩ : ByteArray), .int .u8 0, .int .i64 3, .int .i64 0, .string (⟨#[]⟩ : ByteArray), .int .u8 0, .int .i64 4, .int .i64 0, .string (⟨#[]⟩ : ByteArray), .int .u8 24, .int .i64 9, .int .i64 0, .string (⟨#[]⟩ : ByteArray), .int .u8 0, n, .int .i64 0, .string (⟨#[]⟩ : ByteArray), .int .u8 0, n, .int .i64 0, .string (⟨#[]⟩ : ByteArray), .int .u8 26, .int .i64 0, .int .i64 0, s, .int .u8 18, .int .i64 5, .int .i64 0, .string (⟨#[]⟩ : ByteArray), .int .u8 8, .int .i64 0, .int .i64 0, .string (⟨#[]⟩ : ByteArray)]
theorem chkR5 (t1 t2 : TypeId) : retW (@callN ftW Tryd.prog X0 tab 200 60 21 [.slice (some ⟨6, 0, none⟩) 1 UNK, .int .i64 ((8 : Nat) : Int)] (memR 8 (GR t1 t2 ++ [(6, [.int .i64 0, .slice (some ⟨7, 0, none⟩) 11 UNK], 43, 2), (7, RC5 (.map (some 0)) (.map (some 1)), 34, 4)]))) = true := by kernel_rfl
abbrev FC (s : Value) : List Value := [.int .u8 26, .int .i64 0, .int .i64 0, s]
theorem chkF1 (t1 t2 : TypeId) : retW (@callN ftW Tryd.prog X0 tab 200 60 21 [.slice (some ⟨6, 0, none⟩) 1 UNK, .int .i64 ((8 : Nat) : Int)] (memR 8 (GR t1 t2 ++ [(6, [.int .i64 0, .slice (some ⟨7, 0, none⟩) 1 1], 43, 2), (7, FC (.map (some 1)), 34, 4)]))) = true := by kernel_rfl
variable [SymE]
theorem _root_.Go.Proofs.Tryd.CodeAt.cons {ro l : List (Nat × Blk)} {fu : Value} {f cn : Nat} {cells : List Value} {p : Nat × Blk} (h : CodeAt ro l fu f cn cells) : CodeAt ro (p :: l) fu f cn cells := by
  obtain ⟨fb, nf, cf, cb, cc, FU, t, e, rw_, fz, h1, h2, h3, h4, h5⟩ := h.ex
  exact ⟨fb, nf, cf, cb, cc, FU, t, e, rw_, fz, h1, h2, h3.cons, h4, h5.cons⟩
theorem _root_.Go.Proofs.Tryd.MM.drop {aw0 aw : AW} {own : List Nat} {ro l : List (Nat × Blk)} {X : MC} {st : List Nat} {fs : List Fr} {fuel : Int} {p : Nat × Blk} (H : MM aw0 own ro X st fs fuel (p :: l) aw) : MM aw0 own ro X st fs fuel l aw := by
  obtain ⟨bs, bf, sj, fj, M⟩ := H.ex
  exact ⟨bs, bf, sj, fj, M.drop (.there (.there (.there .here)))⟩
section
variable {aw0 aw : AW} {own : List Nat} {ro l : List (Nat × Blk)} {t1 t2 : TypeId} {cb hb mb qu m b1 b2 b3 rb tb fb gb p nc cc k ty : Nat} {E : List PanicEntry → AW → Prop} {ws : List Nat} {Q : (Int × Int × ByteArray × ByteArray × Value × Int × Value) → AW → Prop} {n : Int} {s : ByteArray}
theorem end13T {CB : Blk} {w n2 : Nat} {fuel : Int} (H : MM aw0 own ro { MX m hb fb gb with tr := Sl ty 0 } ([] ++ [w]) [] fuel (HL hb mb ws qu (LL m b1 b2 b3 rb tb (RL fb gb p cb nc cc CB l))) aw)
    (hQ : ∀ B aw', B.cells[0]? = some (Pt hb) → Hp aw0 own ro aw' ((m, B) :: HL hb mb ws qu ((cb, CB) :: l)) → Q (0, (w : Int), ⟨#[]⟩, ⟨#[]⟩, nil3, fuel, Pt m) aw') : S35_1 (Q35 (QR Q m p) E m tb rb (n2 + 1)) E (k + 1) (Pt b1) (Pt b2) (Pt b3) aw := by
  have H' := H.perm (l' := LL m b1 b2 b3 rb tb (HL hb mb ws qu (RL fb gb p cb nc cc CB l))) (by
    classical exact List.perm_iff_count.2 fun a => by simp only [List.count_cons, HL, LL, RL]; omega)
  refine fin_ok (st := []) (w := w) rfl rfl rfl (by decide) H' fun sk' fr' aw' M' => ?_
  have M2 : Hp aw0 own ro aw' ((fb, funB cb nc cc) :: (gb, WB (gw 8) []) :: ((m, MCB { MX m hb fb gb with tr := Sl ty 0 } sk' fr' fuel) :: (p, R0) :: HL hb mb ws qu ((cb, CB) :: l))) := M'.perm (by
    classical exact List.perm_iff_count.2 fun a => by simp only [List.count_cons, HL, LL, RL]; omega)
  exact ret13 rfl ((M2.drop .here).drop .here) fun aw'' M3 => hQ _ aw'' rfl M3
end
section
variable {aw0 aw : AW} {own : List Nat} {l : List (Nat × Blk)} {t1 t2 : TypeId} {cb : Nat} {E : List PanicEntry → AW → Prop} {Q : (Int × Int × ByteArray × ByteArray × Value × Int × Value) → AW → Prop} {n : Int} {s : ByteArray}
theorem failRun (h1 : SymE.E 1 = .string s) (M : Hp aw0 own (ro0 t1 t2) aw ((cb, ⟨FC (.string s), 34, 4, true, 0⟩) :: l))
    (hQ : ∀ m aw', Hp aw0 own (ro0 t1 t2) aw' l → Q (9, 0, s, ⟨#[]⟩, nil3, 3, Pt m) aw') :
    CallP Tryd.prog 13 [.slice (some ⟨cb, 0, none⟩) 1 1, .int .i64 3] aw Tryd.sh13 Q E := by
  refine run13_x M (by decide) (by decide) 1 (by
    have := chk1_x (aw0 := aw0) (own := own) (l := l) (t1 := t1) (t2 := t2) (cb := cb) (nc := 1) (cc := 1) (E := E) (C := FC (.string s)) (cj := []) chkF1 rfl (fun ren => by rw [← h1]; rfl)
    simpa using this) fun m hb mb gb fb p b1 b2 b3 rb tb aw5 H => ⟨0 + 1, ?_⟩
  refine mm_fail (fs := []) (pc := 0) H (codeL.ins (by decide) (by decide) rfl) sbL (by decide) fun aw8 H3 => ?_
  refine endRaise (n2 := 0) H3 fun sk' fr' aw' M' => hQ m aw' ?_
  exact ((M'.drop .here).drop .here).drop .here |>.drop .here
theorem raiseRun0 (h0 : SymE.E 0 = .int .i64 n) (h1 : SymE.E 1 = .string s) (hs : s.size ≤ 2000) (M : Hp aw0 own (ro0 t1 t2) aw ((cb, ⟨RC0 (.int .i64 n) (.string s), 34, 4, true, 0⟩) :: l))
    (hQ : ∀ m hb mb B ws j aw', TxtAt ws j s → ws.length < 2 ^ 50 → B.cells[0]? = some (Pt hb) → Hp aw0 own (ro0 t1 t2) aw' ((m, B) :: HL hb mb ws 4000 l) → Q (0, ((2 * j : Nat) : Int), ⟨#[]⟩, ⟨#[]⟩, nil3, 3, Pt m) aw') :
    CallP Tryd.prog 13 [.slice (some ⟨cb, 0, none⟩) 5 UNK, .int .i64 3] aw Tryd.sh13 Q E := by
  refine run13_x M (by decide) (by decide) 2 (by
    have := chk1_x (aw0 := aw0) (own := own) (l := l) (t1 := t1) (t2 := t2) (cb := cb) (nc := 5) (cc := UNK) (E := E) (C := RC0 (.int .i64 n) (.string s)) (cj := []) chkR0 rfl (fun ren => by rw [← h0, ← h1]; rfl)
    simpa using this) fun m hb mb gb fb p b1 b2 b3 rb tb aw5 H => ⟨3 + 1, ?_⟩
  have hl : (hw 8).length = 16 := rfl
  refine mm_try (fs := []) (pc := 0) (i := 4) H (codeL.ins (by decide) (by decide) rfl) sbL (by decide) rfl fun ty aw5 H => ?_
  refine mm_int (fs := []) (pc := 1) H (codeL.cons.ins (by decide) (by decide) rfl) (.there sbL) (by decide) (by decide) fun aw5 H => ?_
  refine mm_int (fs := []) (pc := 2) H (codeL.cons.ins (by decide) (by decide) rfl) (.there sbL) (by decide) (by simp) fun aw5 H => ?_
  refine mm_fail (fs := []) (pc := 3) H (codeL.cons.ins (by decide) (by decide) rfl) (.there sbL) (by decide) fun aw5 H => ?_
  refine mm_caught (fs := []) (st := [WN 0, WN 0]) (st2 := [WN n, WN n]) rfl rfl rfl (by decide) (by decide) (by omega) (by decide) (by rw [hl]; omega) H fun b1 b2 b3 mb5 aw5 H => ⟨1 + 1, ?_⟩
  have H := H.drop
  refine mm_ret (fs := []) (pc := 4) (st := [WN 0, WN 0]) H (codeL.ins (by decide) (by decide) rfl) sbL (by decide) (by decide) (by decide) (by decide) fun aw5 H => ?_
  refine end13T (k := 0) (n2 := 0) H fun B aw' hB M' => ?_
  have hla := txt_len s
  refine hQ m hb mb5 B (hw 8 ++ txt s) _ aw' (TxtAt.last (by omega)) (by rw [List.length_append, hl, hla]; omega) hB ?_
  have M2 : Hp aw0 own (ro0 t1 t2) aw' ((cb, ⟨RC0 (.int .i64 n) (.string s), 34, 4, true, 0⟩) :: ((m, B) :: HL hb mb5 (hw 8 ++ txt s) 4000 l)) := M'.perm (by
    classical exact List.perm_iff_count.2 fun a => by simp only [List.count_cons, HL]; omega)
  exact M2.drop .here
theorem raiseRun1 (h0 : SymE.E 0 = .int .i64 n) (h1 : SymE.E 1 = .string s) (hs : s.size ≤ 2000) (M : Hp aw0 own (ro0 t1 t2) aw ((cb, ⟨RC1 (.int .i64 n) (.string s), 34, 4, true, 0⟩) :: l))
    (hQ : ∀ m hb mb B ws j aw', TxtAt ws j s → ws.length < 2 ^ 50 → B.cells[0]? = some (Pt hb) → Hp aw0 own (ro0 t1 t2) aw' ((m, B) :: HL hb mb ws 4000 l) → Q (0, ((2 * j : Nat) : Int), ⟨#[]⟩, ⟨#[]⟩, nil3, 3, Pt m) aw') :
    CallP Tryd.prog 13 [.slice (some ⟨cb, 0, none⟩) 7 UNK, .int .i64 3] aw Tryd.sh13 Q E := by
  refine run13_x M (by decide) (by decide) 2 (by
    have := chk1_x (aw0 := aw0) (own := own) (l := l) (t1 := t1) (t2 := t2) (cb := cb) (nc := 7) (cc := UNK) (E := E) (C := RC1 (.int .i64 n) (.string s)) (cj := []) chkR1 rfl (fun ren => by rw [← h0, ← h1]; rfl)
    simpa using this) fun m hb mb gb fb p b1 b2 b3 rb tb aw5 H => ⟨4 + 1, ?_⟩
  have hl : (hw 8).length = 16 := rfl
  refine mm_int (fs := []) (pc := 0) H (codeL.ins (by decide) (by decide) rfl) sbL (by decide) (by decide) fun aw5 H => ?_
  refine mm_try (fs := []) (pc := 1) (i := 5) H (codeL.ins (by decide) (by decide) rfl) sbL (by decide) rfl fun ty aw5 H => ?_
  refine mm_int (fs := []) (pc := 2) H (codeL.cons.ins (by decide) (by decide) rfl) (.there sbL) (by decide) (by decide) fun aw5 H => ?_
  refine mm_int (fs := []) (pc := 3) H (codeL.cons.ins (by decide) (by decide) rfl) (.there sbL) (by decide) (by simp) fun aw5 H => ?_
  refine mm_fail (fs := []) (pc := 4) H (codeL.cons.ins (by decide) (by decide) rfl) (.there sbL) (by decide) fun aw5 H => ?_
  refine mm_caught (fs := []) (st := [WN 0, WN 0, WN 0]) (st2 := [WN n, WN n]) rfl rfl rfl (by decide) (by decide) (by omega) (by decide) (by rw [hl]; omega) H fun b1 b2 b3 mb5 aw5 H => ⟨2 + 1, ?_⟩
  have H := H.drop
  refine mm_slide (fs := []) (pc := 5) (st := [WN 0, WN 0]) (st2 := [WN 0]) H (codeL.ins (by decide) (by decide) rfl) sbL (by decide) (by decide) fun aw5 H => ?_
  refine mm_ret (fs := []) (pc := 6) (st := [WN 0, WN 0]) H (codeL.ins (by decide) (by decide) rfl) sbL (by decide) (by decide) (by decide) (by decide) fun aw5 H => ?_
  refine end13T (k := 0) (n2 := 0) H fun B aw' hB M' => ?_
  have hla := txt_len s
  refine hQ m hb mb5 B (hw 8 ++ txt s) _ aw' (TxtAt.last (by omega)) (by rw [List.length_append, hl, hla]; omega) hB ?_
  have M2 : Hp aw0 own (ro0 t1 t2) aw' ((cb, ⟨RC1 (.int .i64 n) (.string s), 34, 4, true, 0⟩) :: ((m, B) :: HL hb mb5 (hw 8 ++ txt s) 4000 l)) := M'.perm (by
    classical exact List.perm_iff_count.2 fun a => by simp only [List.count_cons, HL]; omega)
  exact M2.drop .here
theorem raiseRun2 (h0 : SymE.E 0 = .int .i64 n) (h1 : SymE.E 1 = .string s) (hs : s.size ≤ 2000) (M : Hp aw0 own (ro0 t1 t2) aw ((cb, ⟨RC2 (.int .i64 n) (.string s), 34, 4, true, 0⟩) :: l))
    (hQ : ∀ m hb mb B ws j aw', TxtAt ws j s → ws.length < 2 ^ 50 → B.cells[0]? = some (Pt hb) → Hp aw0 own (ro0 t1 t2) aw' ((m, B) :: HL hb mb ws 4000 l) → Q (0, ((2 * j : Nat) : Int), ⟨#[]⟩, ⟨#[]⟩, nil3, 3, Pt m) aw') :
    CallP Tryd.prog 13 [.slice (some ⟨cb, 0, none⟩) 8 UNK, .int .i64 3] aw Tryd.sh13 Q E := by
  refine run13_x M (by decide) (by decide) 2 (by
    have := chk1_x (aw0 := aw0) (own := own) (l := l) (t1 := t1) (t2 := t2) (cb := cb) (nc := 8) (cc := UNK) (E := E) (C := RC2 (.int .i64 n) (.string s)) (cj := []) chkR2 rfl (fun ren => by rw [← h0, ← h1]; rfl)
    simpa using this) fun m hb mb gb fb p b1 b2 b3 rb tb aw5 H => ⟨5 + 1, ?_⟩
  have hl : (hw 8).length = 16 := rfl
  refine mm_int (fs := []) (pc := 0) H (codeL.ins (by decide) (by decide) rfl) sbL (by decide) (by decide) fun aw5 H => ?_
  refine mm_int (fs := []) (pc := 1) H (codeL.ins (by decide) (by decide) rfl) sbL (by decide) (by decide) fun aw5 H => ?_
  refine mm_try (fs := []) (pc := 2) (i := 6) H (codeL.ins (by decide) (by decide) rfl) sbL (by decide) rfl fun ty aw5 H => ?_
  refine mm_int (fs := []) (pc := 3) H (codeL.cons.ins (by decide) (by decide) rfl) (.there sbL) (by decide) (by decide) fun aw5 H => ?_
  refine mm_int (fs := []) (pc := 4) H (codeL.cons.ins (by decide) (by decide) rfl) (.there sbL) (by decide) (by simp) fun aw5 H => ?_
  refine mm_fail (fs := []) (pc := 5) H (codeL.cons.ins (by decide) (by decide) rfl) (.there sbL) (by decide) fun aw5 H => ?_
  refine mm_caught (fs := []) (st := [WN 0, WN 0, WN 0, WN 1]) (st2 := [WN n, WN n]) rfl rfl rfl (by decide) (by decide) (by omega) (by decide) (by rw [hl]; omega) H fun b1 b2 b3 mb5 aw5 H => ⟨2 + 1, ?_⟩
  have H := H.drop
  refine mm_slide (fs := []) (pc := 6) (st := [WN 0, WN 0]) (st2 := [WN 0, WN 1]) H (codeL.ins (by decide) (by decide) rfl) sbL (by decide) (by decide) fun aw5 H => ?_
  refine mm_ret (fs := []) (pc := 7) (st := [WN 0, WN 0]) H (codeL.ins (by decide) (by decide) rfl) sbL (by decide) (by decide) (by decide) (by decide) fun aw5 H => ?_
  refine end13T (k := 0) (n2 := 0) H fun B aw' hB M' => ?_
  have hla := txt_len s
  refine hQ m hb mb5 B (hw 8 ++ txt s) _ aw' (TxtAt.last (by omega)) (by rw [List.length_append, hl, hla]; omega) hB ?_
  have M2 : Hp aw0 own (ro0 t1 t2) aw' ((cb, ⟨RC2 (.int .i64 n) (.string s), 34, 4, true, 0⟩) :: ((m, B) :: HL hb mb5 (hw 8 ++ txt s) 4000 l)) := M'.perm (by
    classical exact List.perm_iff_count.2 fun a => by simp only [List.count_cons, HL]; omega)
  exact M2.drop .here
theorem raiseRun3 (h0 : SymE.E 0 = .int .i64 n) (h1 : SymE.E 1 = .string s) (hs : s.size ≤ 2000) (M : Hp aw0 own (ro0 t1 t2) aw ((cb, ⟨RC3 (.int .i64 n) (.string s), 34, 4, true, 0⟩) :: l))
    (hQ : ∀ m hb mb B ws j aw', TxtAt ws j s → ws.length < 2 ^ 50 → B.cells[0]? = some (Pt hb) → Hp aw0 own (ro0 t1 t2) aw' ((m, B) :: HL hb mb ws 4000 l) → Q (0, ((2 * j : Nat) : Int), ⟨#[]⟩, ⟨#[]⟩, nil3, 3, Pt m) aw') :
    CallP Tryd.prog 13 [.slice (some ⟨cb, 0, none⟩) 9 UNK, .int .i64 3] aw Tryd.sh13 Q E := by
  refine run13_x M (by decide) (by decide) 2 (by
    have := chk1_x (aw0 := aw0) (own := own) (l := l) (t1 := t1) (t2 := t2) (cb := cb) (nc := 9) (cc := UNK) (E := E) (C := RC3 (.int .i64 n) (.string s)) (cj := []) chkR3 rfl (fun ren => by rw [← h0, ← h1]; rfl)
    simpa using this) fun m hb mb gb fb p b1 b2 b3 rb tb aw5 H => ⟨6 + 1, ?_⟩
  have hl : (hw 8).length = 16 := rfl
  refine mm_int (fs := []) (pc := 0) H (codeL.ins (by decide) (by decide) rfl) sbL (by decide) (by decide) fun aw5 H => ?_
  refine mm_int (fs := []) (pc := 1) H (codeL.ins (by decide) (by decide) rfl) sbL (by decide) (by decide) fun aw5 H => ?_
  refine mm_int (fs := []) (pc := 2) H (codeL.ins (by decide) (by decide) rfl) sbL (by decide) (by decide) fun aw5 H => ?_
  refine mm_try (fs := []) (pc := 3) (i := 7) H (codeL.ins (by decide) (by decide) rfl) sbL (by decide) rfl fun ty aw5 H => ?_
  refine mm_int (fs := []) (pc := 4) H (codeL.cons.ins (by decide) (by decide) rfl) (.there sbL) (by decide) (by decide) fun aw5 H => ?_
  refine mm_int (fs := []) (pc := 5) H (codeL.cons.ins (by decide) (by decide) rfl) (.there sbL) (by decide) (by simp) fun aw5 H => ?_
  refine mm_fail (fs := []) (pc := 6) H (codeL.cons.ins (by decide) (by decide) rfl) (.there sbL) (by decide) fun aw5 H => ?_
  refine mm_caught (fs := []) (st := [WN 0, WN 0, WN 0, WN 1, WN 2]) (st2 := [WN n, WN n]) rfl rfl rfl (by decide) (by decide) (by omega) (by decide) (by rw [hl]; omega) H fun b1 b2 b3 mb5 aw5 H => ⟨2 + 1, ?_⟩
  have H := H.drop
  refine mm_slide (fs := []) (pc := 7) (st := [WN 0, WN 0]) (st2 := [WN 0, WN 1, WN 2]) H (codeL.ins (by decide) (by decide) rfl) sbL (by decide) (by decide) fun aw5 H => ?_
  refine mm_ret (fs := []) (pc := 8) (st := [WN 0, WN 0]) H (codeL.ins (by decide) (by decide) rfl) sbL (by decide) (by decide) (by decide) (by decide) fun aw5 H => ?_
  refine end13T (k := 0) (n2 := 0) H fun B aw' hB M' => ?_
  have hla := txt_len s
  refine hQ m hb mb5 B (hw 8 ++ txt s) _ aw' (TxtAt.last (by omega)) (by rw [List.length_append, hl, hla]; omega) hB ?_
  have M2 : Hp aw0 own (ro0 t1 t2) aw' ((cb, ⟨RC3 (.int .i64 n) (.string s), 34, 4, true, 0⟩) :: ((m, B) :: HL hb mb5 (hw 8 ++ txt s) 4000 l)) := M'.perm (by
    classical exact List.perm_iff_count.2 fun a => by simp only [List.count_cons, HL]; omega)
  exact M2.drop .here
theorem raiseRun4 (h0 : SymE.E 0 = .int .i64 n) (h1 : SymE.E 1 = .string s) (hs : s.size ≤ 2000) (M : Hp aw0 own (ro0 t1 t2) aw ((cb, ⟨RC4 (.int .i64 n) (.string s), 34, 4, true, 0⟩) :: l))
    (hQ : ∀ m hb mb B ws j aw', TxtAt ws j s → ws.length < 2 ^ 50 → B.cells[0]? = some (Pt hb) → Hp aw0 own (ro0 t1 t2) aw' ((m, B) :: HL hb mb ws 4000 l) → Q (0, ((2 * j : Nat) : Int), ⟨#[]⟩, ⟨#[]⟩, nil3, 3, Pt m) aw') :
    CallP Tryd.prog 13 [.slice (some ⟨cb, 0, none⟩) 10 UNK, .int .i64 3] aw Tryd.sh13 Q E := by
  refine run13_x M (by decide) (by decide) 2 (by
    have := chk1_x (aw0 := aw0) (own := own) (l := l) (t1 := t1) (t2 := t2) (cb := cb) (nc := 10) (cc := UNK) (E := E) (C := RC4 (.int .i64 n) (.string s)) (cj := []) chkR4 rfl (fun ren => by rw [← h0, ← h1]; rfl)
    simpa using this) fun m hb mb gb fb p b1 b2 b3 rb tb aw5 H => ⟨7 + 1, ?_⟩
  have hl : (hw 8).length = 16 := rfl
  refine mm_int (fs := []) (pc := 0) H (codeL.ins (by decide) (by decide) rfl) sbL (by decide) (by decide) fun aw5 H => ?_
  refine mm_int (fs := []) (pc := 1) H (codeL.ins (by decide) (by decide) rfl) sbL (by decide) (by decide) fun aw5 H => ?_
  refine mm_int (fs := []) (pc := 2) H (codeL.ins (by decide) (by decide) rfl) sbL (by decide) (by decide) fun aw5 H => ?_
  refine mm_int (fs := []) (pc := 3) H (codeL.ins (by decide) (by decide) rfl) sbL (by decide) (by decide) fun aw5 H => ?_
  refine mm_try (fs := []) (pc := 4) (i := 8) H (codeL.ins (by decide) (by decide) rfl) sbL (by decide) rfl fun ty aw5 H => ?_
  refine mm_int (fs := []) (pc := 5) H (codeL.cons.ins (by decide) (by decide) rfl) (.there sbL) (by decide) (by decide) fun aw5 H => ?_
  refine mm_int (fs := []) (pc := 6) H (codeL.cons.ins (by decide) (by decide) rfl) (.there sbL) (by decide) (by simp) fun aw5 H => ?_
  refine mm_fail (fs := []) (pc := 7) H (codeL.cons.ins (by decide) (by decide) rfl) (.there sbL) (by decide) fun aw5 H => ?_
  refine mm_caught (fs := []) (st := [WN 0, WN 0, WN 0, WN 1, WN 2, WN 3]) (st2 := [WN n, WN n]) rfl rfl rfl (by decide) (by decide) (by omega) (by decide) (by rw [hl]; omega) H fun b1 b2 b3 mb5 aw5 H => ⟨2 + 1, ?_⟩
  have H := H.drop
  refine mm_slide (fs := []) (pc := 8) (st := [WN 0, WN 0]) (st2 := [WN 0, WN 1, WN 2, WN 3]) H (codeL.ins (by decide) (by decide) rfl) sbL (by decide) (by decide) fun aw5 H => ?_
  refine mm_ret (fs := []) (pc := 9) (st := [WN 0, WN 0]) H (codeL.ins (by decide) (by decide) rfl) sbL (by decide) (by decide) (by decide) (by decide) fun aw5 H => ?_
  refine end13T (k := 0) (n2 := 0) H fun B aw' hB M' => ?_
  have hla := txt_len s
  refine hQ m hb mb5 B (hw 8 ++ txt s) _ aw' (TxtAt.last (by omega)) (by rw [List.length_append, hl, hla]; omega) hB ?_
  have M2 : Hp aw0 own (ro0 t1 t2) aw' ((cb, ⟨RC4 (.int .i64 n) (.string s), 34, 4, true, 0⟩) :: ((m, B) :: HL hb mb5 (hw 8 ++ txt s) 4000 l)) := M'.perm (by
    classical exact List.perm_iff_count.2 fun a => by simp only [List.count_cons, HL]; omega)
  exact M2.drop .here
theorem raiseRun5 (h0 : SymE.E 0 = .int .i64 n) (h1 : SymE.E 1 = .string s) (hs : s.size ≤ 2000) (M : Hp aw0 own (ro0 t1 t2) aw ((cb, ⟨RC5 (.int .i64 n) (.string s), 34, 4, true, 0⟩) :: l))
    (hQ : ∀ m hb mb B ws j aw', TxtAt ws j s → ws.length < 2 ^ 50 → B.cells[0]? = some (Pt hb) → Hp aw0 own (ro0 t1 t2) aw' ((m, B) :: HL hb mb ws 4000 l) → Q (0, ((2 * j : Nat) : Int), ⟨#[]⟩, ⟨#[]⟩, nil3, 3, Pt m) aw') :
    CallP Tryd.prog 13 [.slice (some ⟨cb, 0, none⟩) 11 UNK, .int .i64 3] aw Tryd.sh13 Q E := by
  refine run13_x M (by decide) (by decide) 2 (by
    have := chk1_x (aw0 := aw0) (own := own) (l := l) (t1 := t1) (t2 := t2) (cb := cb) (nc := 11) (cc := UNK) (E := E) (C := RC5 (.int .i64 n) (.string s)) (cj := []) chkR5 rfl (fun ren => by rw [← h0, ← h1]; rfl)
    simpa using this) fun m hb mb gb fb p b1 b2 b3 rb tb aw5 H => ⟨8 + 1, ?_⟩
  have hl : (hw 8).length = 16 := rfl
  refine mm_int (fs := []) (pc := 0) H (codeL.ins (by decide) (by decide) rfl) sbL (by decide) (by decide) fun aw5 H => ?_
  refine mm_int (fs := []) (pc := 1) H (codeL.ins (by decide) (by decide) rfl) sbL (by decide) (by decide) fun aw5 H => ?_
  refine mm_int (fs := []) (pc := 2) H (codeL.ins (by decide) (by decide) rfl) sbL (by decide) (by decide) fun aw5 H => ?_
  refine mm_int (fs := []) (pc := 3) H (codeL.ins (by decide) (by decide) rfl) sbL (by decide) (by decide) fun aw5 H => ?_
  refine mm_int (fs := []) (pc := 4) H (codeL.ins (by decide) (by decide) rfl) sbL (by decide) (by decide) fun aw5 H => ?_
  refine mm_try (fs := []) (pc := 5) (i := 9) H (codeL.ins (by decide) (by decide) rfl) sbL (by decide) rfl fun ty aw5 H => ?_
  refine mm_int (fs := []) (pc := 6) H (codeL.cons.ins (by decide) (by decide) rfl) (.there sbL) (by decide) (by decide) fun aw5 H => ?_
  refine mm_int (fs := []) (pc := 7) H (codeL.cons.ins (by decide) (by decide) rfl) (.there sbL) (by decide) (by simp) fun aw5 H => ?_
  refine mm_fail (fs := []) (pc := 8) H (codeL.cons.ins (by decide) (by decide) rfl) (.there sbL) (by decide) fun aw5 H => ?_
  refine mm_caught (fs := []) (st := [WN 0, WN 0, WN 0, WN 1, WN 2, WN 3, WN 4]) (st2 := [WN n, WN n]) rfl rfl rfl (by decide) (by decide) (by omega) (by decide) (by rw [hl]; omega) H fun b1 b2 b3 mb5 aw5 H => ⟨2 + 1, ?_⟩
  have H := H.drop
  refine mm_slide (fs := []) (pc := 9) (st := [WN 0, WN 0]) (st2 := [WN 0, WN 1, WN 2, WN 3, WN 4]) H (codeL.ins (by decide) (by decide) rfl) sbL (by decide) (by decide) fun aw5 H => ?_
  refine mm_ret (fs := []) (pc := 10) (st := [WN 0, WN 0]) H (codeL.ins (by decide) (by decide) rfl) sbL (by decide) (by decide) (by decide) (by decide) fun aw5 H => ?_
  refine end13T (k := 0) (n2 := 0) H fun B aw' hB M' => ?_
  have hla := txt_len s
  refine hQ m hb mb5 B (hw 8 ++ txt s) _ aw' (TxtAt.last (by omega)) (by rw [List.length_append, hl, hla]; omega) hB ?_
  have M2 : Hp aw0 own (ro0 t1 t2) aw' ((cb, ⟨RC5 (.int .i64 n) (.string s), 34, 4, true, 0⟩) :: ((m, B) :: HL hb mb5 (hw 8 ++ txt s) 4000 l)) := M'.perm (by
    classical exact List.perm_iff_count.2 fun a => by simp only [List.count_cons, HL]; omega)
  exact M2.drop .here
end
end Go.Proofs.YtfoceofohlpafaaDoor
set_option linter.unusedVariables false
set_option linter.unusedSimpArgs false
set_option linter.unusedSectionVars false
set_option maxRecDepth 100000
namespace Go.Proofs.YtfoceofohlpafaaDoor
open Go Go.Am Go.RowKit Go.Ri Go.Proofs.Tryd
variable [SymE]
section
variable {aw0 aw : AW} {own : List Nat} {l L : List (Nat × Blk)} {t1 t2 : TypeId} {E : List PanicEntry → AW → Prop} {s : ByteArray} {n : Int} {k : Nat} {v : Value} {os : List Value}
abbrev RBk (e w : Int) (rs out : ByteArray) (mv : Value) (fu : Int) : Blk := ⟨[.int .i64 e, .int .u64 w, .string rs, .string out, mv, .int .i64 fu], 29, 0, true, 0⟩
def intsC : Nat → List Value
  | 0 => []
  | i + 1 => intsC i ++ [.int .u8 0, .int .i64 (i : Int), .int .i64 0, .string (⟨#[]⟩ : ByteArray)]
theorem intsC_len : ∀ i, (intsC i).length = i * 4
  | 0 => rfl
  | i + 1 => by simp [intsC, intsC_len i]; omega
abbrev codeR (k : Nat) (n : Int) (s : ByteArray) : List Value := intsC k ++ [.int .u8 24, .int .i64 ((k + 4 : Nat) : Int), .int .i64 0, .string (⟨#[]⟩ : ByteArray), .int .u8 0, .int .i64 n, .int .i64 0, .string (⟨#[]⟩ : ByteArray), .int .u8 0, .int .i64 n, .int .i64 0, .string (⟨#[]⟩ : ByteArray), .int .u8 26, .int .i64 0, .int .i64 0, .string s]
abbrev slideC (k : Nat) : List Value := if 0 < k then [.int .u8 18, .int .i64 (k : Int), .int .i64 0, .string (⟨#[]⟩ : ByteArray)] else []
abbrev retC : List Value := [.int .u8 8, .int .i64 0, .int .i64 0, .string (⟨#[]⟩ : ByteArray)]
theorem app4 {K : Value → AW → Prop} {pb i j : Nat} {cs : List Value} {C : Blk} (hp : SlP 34 4 v i os L) (hos : os.length = i * 4) (M : Hp aw0 own (ro0 t1 t2) aw ((pb, ⟨cs, 34, 4, true, 0⟩) :: (L ++ l))) (hcs : cs.length = j * 4) (h1 : cs.all one = true) (hi : i < 1000) (hj : j < 1000) (h0 : 0 < j)
    (h : ∀ b aw', Hp aw0 own (ro0 t1 t2) aw' ((b, ⟨os ++ cs, 34, 4, true, 0⟩) :: l) → K (.slice (some ⟨b, 0, none⟩) (i + j) UNK) aw') : app aw 34 4 40 v (.slice (some ⟨pb, 0, none⟩) j j) K := by
  have M1 : Hp aw0 own (ro0 t1 t2) aw (L ++ (pb, ⟨cs, 34, 4, true, 0⟩) :: l) := M.perm (by
    classical exact List.perm_iff_count.2 fun a => by simp only [List.count_append, List.count_cons]; omega)
  refine app_p hp M1 (src_x (M.im .here) (by show 0 + j * 4 ≤ cs.length; omega) (by rw [List.drop_zero]; exact List.take_of_length_le (by show cs.length ≤ j * 4; omega))) h0 h1 (by omega) fun b aw' M2 => h b aw' ?_
  rw [List.take_of_length_le (by omega)] at M2
  exact M2.drop (.there .here)
theorem build {Q : Bool → AW → Prop} : ∀ (r i : Nat) (v : Value) (L : List (Nat × Blk)) (aw : AW), i + r = k → k < 100 → SlP 34 4 v i (intsC i) L → Hp aw0 own (ro0 t1 t2) aw (L ++ l) →
    (∀ v L aw', SlP 34 4 v k (intsC k) L → Hp aw0 own (ro0 t1 t2) aw' (L ++ l) → S8_1 Q E 1 s n (k : Int) v (k : Int) aw') → S8_1 Q E (1 + r) s n (k : Int) v (i : Int) aw
  | 0, i, v, L, aw, h, hk, hp, M, K => by
    obtain rfl : i = k := by omega
    exact K v L aw hp M
  | r + 1, i, v, L, aw, h, hk, hp, M, K => by
    show S8_1s Q E (S8_1 Q E (1 + r)) s n (k : Int) v (i : Int) aw
    unfold S8_1s
    refine cnd_1x (decide_eq_true (by omega)) (alcS_x M fun pb aw1 M1 => ?_)
    refine app4 (j := 1) (C := R0) hp (intsC_len i) M1 rfl rfl (by omega) (by omega) (by omega) fun b aw2 M2 => ?_
    rw [show (i : Int) + 1 = ((i + 1 : Nat) : Int) by omega, Tryd.i64_nat (by omega)]
    exact build r (i + 1) _ _ aw2 (by omega) hk (.some (by rw [← intsC_len (i + 1)]; exact Nat.le_refl _)) M2 K
theorem raiseRun (h0 : SymE.E 0 = .int .i64 n) (h1 : SymE.E 1 = .string s) (hs : s.size ≤ 2000) (hk : k < 6) {cb : Nat} {Q : (Int × Int × ByteArray × ByteArray × Value × Int × Value) → AW → Prop} (M : Hp aw0 own (ro0 t1 t2) aw ((cb, ⟨codeR k n s ++ slideC k ++ retC, 34, 4, true, 0⟩) :: l))
    (hQ : ∀ m hb mb B ws j aw', TxtAt ws j s → ws.length < 2 ^ 50 → B.cells[0]? = some (Pt hb) → Hp aw0 own (ro0 t1 t2) aw' ((m, B) :: HL hb mb ws 4000 l) → Q (0, ((2 * j : Nat) : Int), ⟨#[]⟩, ⟨#[]⟩, nil3, 3, Pt m) aw') :
    CallP Tryd.prog 13 [.slice (some ⟨cb, 0, none⟩) (k + 4 + (if 0 < k then 1 else 0) + 1) UNK, .int .i64 3] aw Tryd.sh13 Q E := by
  match k, hk with
  | 0, _ => exact raiseRun0 h0 h1 hs M hQ
  | 1, _ => exact raiseRun1 h0 h1 hs M hQ
  | 2, _ => exact raiseRun2 h0 h1 hs M hQ
  | 3, _ => exact raiseRun3 h0 h1 hs M hQ
  | 4, _ => exact raiseRun4 h0 h1 hs M hQ
  | 5, _ => exact raiseRun5 h0 h1 hs M hQ
theorem tail8 (h0 : SymE.E 0 = .int .i64 n) (h1 : SymE.E 1 = .string s) (hs : s.size ≤ 2000) (hk : k < 6) {i : Nat} (hp : SlP 34 4 v i (codeR k n s ++ slideC k) L) (hi : i = k + 4 + (if 0 < k then 1 else 0)) (hl : (codeR k n s ++ slideC k).length = i * 4) (M : Hp aw0 own (ro0 t1 t2) aw (L ++ l)) : S8_2 (fun r _ => r = true) E s v aw := by
  unfold S8_2
  refine alcS_x M fun pb aw1 M1 => ?_
  refine app4 (j := 1) (C := R0) hp hl M1 rfl rfl (by split at hi <;> omega) (by omega) (by omega) fun b aw2 M2 => ?_
  rw [hi]
  refine raiseRun h0 h1 hs hk M2 fun m hb mb B ws j aw3 hT hws hB M3 => ?_
  refine alc_x M3 fun p aw4 M4 => st_x M4 .here (by repeat constructor) rfl rfl rfl fun aw5 M5 => ?_
  refine alcS_x M5 fun cb aw6 M6 => failRun h1 M6 fun m2 aw7 M7 => ?_
  refine alc_x M7 fun p2 aw8 M8 => st_x M8 .here (by repeat constructor) rfl rfl rfl fun aw9 M9 => nilB_x rfl rfl (cnd_1x rfl ?_)
  have M9 : Hp aw0 own (ro0 t1 t2) aw9 ((p2, RBk 9 0 s ⟨#[]⟩ nil3 3) :: (p, RBk 0 ((2 * j : Nat) : Int) ⟨#[]⟩ ⟨#[]⟩ nil3 3) :: (m, B) :: HL hb mb ws 4000 l) := M9
  refine fldA_x (ldI_x (M9.im (.there .here)) (by repeat constructor) (cnd_1x rfl (fldA_x (ldI_x (M9.im (.there .here)) (by repeat constructor) ?_))))
  refine F18_ok _ aw9 ?_
  unfold S18_0
  obtain ⟨cells, el, esz, rw_, fz⟩ := B
  refine nilB_x rfl rfl (cnd_0x rfl (nck_x (fldA_x (ldV_x (M9.im (.there (.there .here))) (Cell.of hB) (again_x (M9.im (.there .here)) (by repeat constructor) ?_)))))
  refine hText_x hT (.there (.there (.there .here))) (.there (.there (.there (.there .here)))) hws M9 fun aw10 M10 => cnd_1x (by simp) ?_
  refine fldA_x (ldI_x (M10.im .here) (by repeat constructor) (cnd_1x rfl (fldA_x (ldS_x (M10.im .here) (by repeat constructor) (cnd_1x (by simp) ?_)))))
  exact fldA_x (ldI_x (M10.im .here) (by repeat constructor) rfl)
theorem raises_x (h0 : SymE.E 0 = .int .i64 n) (h1 : SymE.E 1 = .string s) {deep : Int} (hd : 0 ≤ deep) (hd2 : deep < 256) (M : Hp aw0 own (ro0 t1 t2) aw l) : CallP Tryd.prog 8 [.string s, .int .u8 deep, .int .i64 n] aw Tryd.sh8 (fun r _ => r = true) E := by
  refine F8_ok _ _ _ aw ?_
  unfold S8_0
  refine awk_x M (cnd_0x rfl ?_)
  by_cases hs : 2000 < s.size
  · exact cnd_1x (decide_eq_true (by omega)) (awk_x M rfl)
  refine cnd_0x (decide_eq_false (by omega)) ?_
  obtain ⟨d, rfl⟩ : ∃ d : Nat, deep = (d : Int) := ⟨deep.toNat, by omega⟩
  have hk : d % 6 < 6 := Nat.mod_lt _ (by decide)
  have e : Int.tmod (IntKind.i64.wrap (d : Int)) 6 = ((d % 6 : Nat) : Int) := by rw [Tryd.i64_nat (by omega)]; rfl
  rw [e]
  generalize d % 6 = k at hk
  refine ⟨1 + k, ?_⟩
  refine build k 0 (.slice none 0 0) [] aw (by omega) (by omega) .nil M fun v L aw1 hp M1 => ?_
  show S8_1s _ E _ s n (k : Int) v (k : Int) aw1
  unfold S8_1s
  rw [show (k : Int) + 4 = ((k + 4 : Nat) : Int) by omega, Tryd.i64_nat (by omega)]
  refine cnd_0x (decide_eq_false (by omega)) (alcS_x M1 fun pb aw2 M2 => ?_)
  refine app4 (j := 4) (C := R0) hp (intsC_len k) M2 rfl rfl (by omega) (by omega) (by omega) fun b aw3 M3 => ?_
  have hl : (codeR k n s).length = (k + 4) * 4 := by simp [codeR, intsC_len]; omega
  by_cases h : 0 < k
  · refine cnd_1x (decide_eq_true (by omega)) (alcS_x M3 fun pb aw4 M4 => ?_)
    refine app4 (L := [(b, ⟨codeR k n s, 34, 4, true, 0⟩)]) (j := 1) (C := R0) (.some (by omega)) hl M4 rfl rfl (by omega) (by omega) (by omega) fun b aw5 M5 => ?_
    have e2 : codeR k n s ++ slideC k = codeR k n s ++ [.int .u8 18, .int .i64 (k : Int), .int .i64 0, .string (⟨#[]⟩ : ByteArray)] := by simp only [slideC, if_pos h]
    rw [← e2] at M5
    have hl2 : (codeR k n s ++ slideC k).length = (k + 4 + 1) * 4 := by rw [e2, List.length_append, hl]; simp; omega
    exact tail8 (L := [(b, ⟨codeR k n s ++ slideC k, 34, 4, true, 0⟩)]) h0 h1 (by omega) hk (.some (by omega)) (by rw [if_pos h]) hl2 M5
  · refine cnd_0x (decide_eq_false (by omega)) ?_
    have e2 : codeR k n s ++ slideC k = codeR k n s := by simp only [slideC, if_neg h, List.append_nil]
    have M4 : Hp aw0 own (ro0 t1 t2) aw3 ([(b, ⟨codeR k n s ++ slideC k, 34, 4, true, 0⟩)] ++ l) := by rw [e2]; exact M3
    exact tail8 (L := [(b, ⟨codeR k n s ++ slideC k, 34, 4, true, 0⟩)]) (i := k + 4) h0 h1 (by omega) hk (.some (by rw [e2]; omega)) (by rw [if_neg h]) (by rw [e2]; exact hl) M4
end
end Go.Proofs.YtfoceofohlpafaaDoor
