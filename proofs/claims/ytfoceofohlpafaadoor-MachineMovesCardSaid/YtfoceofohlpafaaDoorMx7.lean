/- machine: texts, parts, objects of the stack's things. -/
import Derived.Test.YtfoceofohlpafaaDoorMx6
set_option linter.unusedSectionVars false
set_option linter.unusedSimpArgs false
set_option linter.unusedVariables false
namespace Go.Proofs.Tryd
open Go Go.Am Go.RowKit
variable [SymE]
set_option maxHeartbeats 1000000
section
variable {aw0 aw : AW} {own : List Nat} {ro l Lm : List (Nat × Blk)} {m hb bs qu : Nat} {fu gl fr tr ad bu mo v : Value} {fuel space most ct : Int} {ws st : List Nat} {js sj : List Value} {E : List PanicEntry → AW → Prop} {s : ByteArray}
abbrev txt (s : ByteArray) : List Nat := (s.size * 2 ^ 8 + 3) :: tws s 0 ((s.size + 7) / 8)
theorem tws_len (s : ByteArray) : ∀ n i, (tws s i n).length = n
  | 0, _ => rfl
  | n + 1, i => by simp [tws, tws_len s n]
theorem text_x {Q : Unit → AW → Prop} (hv : SlP 26 1 v ws.length (ws.map W ++ js) Lm) (hst : st.length < 2 ^ 39) (hs : s.size ≤ 4096) (hq : qu < 2 ^ 30) (hroom : ws.length + (1 + (s.size + 7) / 8) ≤ qu)
    (M : Hp aw0 own ro aw ((m, MB (Pt hb) fu gl (Sl bs st.length) fr tr fuel space most ad bu mo) :: (bs, WB st sj) :: (hb, HB v (qu : Int) ct) :: (Lm ++ l)))
    (hQ : ∀ bs' mb aw', Hp aw0 own ro aw' ((m, MB (Pt hb) fu gl (Sl bs' (st ++ [2 * ws.length]).length) fr tr fuel space most ad bu mo) :: (bs', WB (st ++ [2 * ws.length]) []) :: (hb, HB (Sl mb (ws ++ txt s).length) (qu : Int) ct) :: (mb, WB (ws ++ txt s) []) :: l) → Q () aw') :
    CallP prog 69 [Pt m, .string s] aw sh69 Q E := by
  obtain ⟨q, cv, rfl⟩ := hv.val
  refine F69_ok _ _ aw ?_
  unfold S69_0
  refine cnd_0x (by simp; omega) (need_x (kind := 3) (k := s.size) (by omega) (by omega) ?_)
  rw [if_pos rfl]
  have M1 := (M.front (.there (.there .here))).front (.there .here)
  refine room_x M1 (by omega) hroom (cnd_0x rfl (nck_x (fldA_x (ldV_x (M.im .here) (by constructor) ?_))))
  have M2 : Hp aw0 own ro aw (Lm ++ (hb, HB (.slice q ws.length cv) (qu : Int) ct) :: ((m, MB (Pt hb) fu gl (Sl bs st.length) fr tr fuel space most ad bu mo) :: (bs, WB st sj) :: l)) :=
    M.perm (by classical exact List.perm_iff_count.2 fun a => by simp only [List.count_append, List.count_cons]; ac_rfl)
  refine puttext_x hv M2 (by omega) hq hroom fun mb aw1 M3 => ?_
  have M4 : Hp aw0 own ro aw1 ((m, MB (Pt hb) fu gl (Sl bs st.length) fr tr fuel space most ad bu mo) :: (bs, WB st sj) :: (hb, HB (Sl mb (ws ++ txt s).length) (qu : Int) ct) :: (mb, WB (ws ++ txt s) []) :: l) := by
    have e : ws ++ [s.size * 2 ^ 8 + 3] ++ tws s 0 ((s.size + 7) / 8) = ws ++ txt s := by simp
    rw [e] at M3
    exact M3.perm (by classical exact List.perm_iff_count.2 fun a => by simp only [List.count_append, List.count_cons]; ac_rfl)
  exact push_x M4 (by omega) fun bs' aw2 M5 => hQ bs' mb aw2 M5
theorem mpart_x {Q : Int → AW → Prop} {mb j i x y : Nat} (hi : In aw hb (HB (Sl mb ws.length) (qu : Int) ct)) (hm : In aw mb (WB ws js)) (h0 : In aw m (MB (Pt hb) fu gl v fr tr fuel space most ad bu mo)) (hn : ws.length < 2 ^ 60) (hj : ws[j]? = some x) (hx : x < 2 ^ 64)
    (hk : x % 256 ≠ 3) (hil : i < x / 256) (hy : ws[j + 1 + i]? = some y) (h : Q (y : Int) aw) : CallP prog 70 [Pt m, .int .u64 ((2 * j : Nat) : Int), .int .i64 (i : Int)] aw sh70 Q E := by
  refine F70_ok _ _ _ aw ?_
  unfold S70_0
  exact nck_x (fldA_x (ldV_x h0 (by constructor) (part_x hi hm hn rfl hj hx hk hil hy (cnd_0x rfl h))))
end
end Go.Proofs.Tryd
