/- machine: objects are laid in the heap. -/
import Derived.Test.YtfoceofohlpafaaDoorMx2
set_option linter.unusedSectionVars false
set_option linter.unusedSimpArgs false
set_option linter.unusedVariables false
namespace Go.Proofs.Tryd
open Go Go.Am Go.RowKit
variable [SymE]
set_option maxHeartbeats 1000000
section
variable {aw0 aw : AW} {own : List Nat} {ro l : List (Nat × Blk)} {m hb pb n c t e z j i : Nat} {js pj : List Value} {E : List PanicEntry → AW → Prop}
theorem hput_loop {Q : (Int × Int) → AW → Prop} {kind : Int} {h : Value} {po np c : Nat} (hnp : np < 2 ^ 30)
    (K : ∀ (v : Value) (n : Nat) (os : List Value) (L : List (Nat × Blk)) (aw : AW), SlP 107 1 v n os L → Hp aw0 own ro aw (L ++ l) →
      S30_1s Q E (fun _ _ _ _ _ _ _ => False) h kind (.slice (some ⟨pb, po, none⟩) np c) v (np : Int) (np : Int) aw) :
    ∀ (k i : Nat) (v : Value) (n : Nat) (os : List Value) (L : List (Nat × Blk)) (aw : AW), i + k = np → n + k < 2 ^ 32 → SlP 107 1 v n os L → Hp aw0 own ro aw (L ++ l) →
      ∃ f, S30_1 Q E f h kind (.slice (some ⟨pb, po, none⟩) np c) v (np : Int) (i : Int) aw := by
  intro k
  induction k with
  | zero =>
    intro i v n os L aw hi hn hs M
    refine ⟨1, ?_⟩
    have hi' : i = np := by omega
    subst hi'
    exact K v n os L aw hs M
  | succ k ih =>
    intro i v n os L aw hi hn hs M
    have step : ∃ v' n' os' L' aw', n' + k < 2 ^ 32 ∧ SlP 107 1 v' n' os' L' ∧ Hp aw0 own ro aw' (L' ++ l) ∧ ∀ nx : Value → Int → Value → Value → Int → Int → AW → Prop, nx h kind (.slice (some ⟨pb, po, none⟩) np c) v' (np : Int) (((i + 1 : Nat) : Int)) aw' →
        S30_1s Q E nx h kind (.slice (some ⟨pb, po, none⟩) np c) v (np : Int) (i : Int) aw := by
      have key : app (aw.alloc [.pointer (some ⟨pb, po + ((i : Nat) : Int).toNat * 1, none⟩)] 107 1) 107 1 8 v (.slice (some ⟨aw.next, 0, none⟩) 1 1) fun v' aw' => ∃ n' os' L', n' + k < 2 ^ 32 ∧ SlP 107 1 v' n' os' L' ∧ Hp aw0 own ro aw' (L' ++ l) := by
        have M1 := M.alloc (cs := [.pointer (some ⟨pb, po + ((i : Nat) : Int).toNat * 1, none⟩)]) 107 1
        have M2 := M1.perm List.perm_middle.symm
        refine app_p hs M2 (src_s (M1.im .here) rfl (.take .nil)) (by omega) rfl (by omega) fun b aw' M => ?_
        have M := M.drop (.there .here)
        exact ⟨n + 1, _, _, by omega, .some (by simp; have := hs.len; omega), M⟩
      obtain ⟨v', aw', happ, n', os', L', g1, g2, g3⟩ := key
      refine ⟨v', n', os', L', aw', g1, g2, g3, fun nx hnx => ?_⟩
      unfold S30_1s
      refine cnd_1x (by simp; omega) (ixS_x (by omega) (by omega) ⟨rfl, _, _, rfl, rfl, v', aw', happ, ?_⟩)
      rw [show (i : Int) + 1 = ((i + 1 : Nat) : Int) by omega, i64_nat (by omega)]
      exact hnx
    obtain ⟨v', n', os', L', aw', g1, g2, g3, g4⟩ := step
    obtain ⟨f, hf⟩ := ih (i + 1) v' n' os' L' aw' (by omega) g1 g2 g3
    exact ⟨f + 1, g4 _ hf⟩
theorem In.ofL {L : List (Nat × Blk)} {b : Nat} {B : Blk} (M : Hp aw0 own ro aw (L ++ (b, B) :: l)) : In aw b B := ⟨(M.at_ _ (List.mem_append.2 (.inr (List.mem_cons_self ..)))).1⟩
theorem hput_x {Q : (Int × Int) → AW → Prop} {kind qu np c kr : Nat} {ct : Int} {v roots : Value} {ws ps : List Nat} {prs : List Value} {Lm : List (Nat × Blk)} (hv : SlP 26 1 v ws.length (ws.map W ++ js) Lm)
    (M : Hp aw0 own ro aw (Lm ++ (hb, HB v (qu : Int) ct) :: (pb, WB ps pj) :: l)) (hps : ps.length = np) (h0 : 0 < np) (hr : Src aw 1 roots kr prs) (hro : prs.all one = true) (hkr : kr < 2 ^ 31)
    (hk : kind < 256) (hk3 : kind ≠ 3) (hq : qu < 2 ^ 30) (hroom : ws.length + (1 + np) ≤ qu)
    (hQ : ∀ mb aw', Hp aw0 own ro aw' ((mb, WB (ws ++ [np * 2 ^ 8 + kind] ++ ps) []) :: (hb, HB (Sl mb (ws ++ [np * 2 ^ 8 + kind] ++ ps).length) (qu : Int) ct) :: (pb, WB ps pj) :: l) → Q (((2 * ws.length : Nat) : Int), 0) aw') :
    CallP prog 30 [Pt hb, .int .u8 (kind : Int), .slice (some ⟨pb, 0, none⟩) np c, roots] aw sh30 Q E := by
  have K : ∀ (lv : Value) (n : Nat) (os : List Value) (L : List (Nat × Blk)) (aw : AW), SlP 107 1 lv n os L → Hp aw0 own ro aw (L ++ (Lm ++ (hb, HB v (qu : Int) ct) :: (pb, WB ps pj) :: l)) →
      S30_1s Q E (fun _ _ _ _ _ _ _ => False) (Pt hb) (kind : Int) (.slice (some ⟨pb, 0, none⟩) np c) lv (np : Int) (np : Int) aw := by
    intro lv n os L aw hs M
    have M : Hp aw0 own ro aw (Lm ++ (hb, HB v (qu : Int) ct) :: (pb, WB ps pj) :: l) := by
      cases hs with
      | nil => exact M
      | some _ => exact M.drop .here
    obtain ⟨q, cv, hvv⟩ := hv.val
    have hi : In aw hb (HB v (qu : Int) ct) := In.ofL M
    unfold S30_1s
    refine cnd_0x (by simp) (slen_x (need_x hk (by omega) ?_))
    rw [if_neg hk3]
    refine hroom_x (q := q) (c := cv) (n := ws.length) (by rw [← hvv]; exact hi) (by omega) (by omega) (cnd_0x rfl (nck_x (fldA_x (ldV_x hi (by constructor) ?_))))
    rw [show slen v = slen (.slice q ws.length cv) from by rw [← hvv]]
    refine slen_x (nck_x (fldA_x (ldV_x hi (by constructor) (slen_x (head_x hk (by omega) (again_x hi (by constructor) ?_))))))
    refine alcS_x M fun b aw1 M1 => ?_
    have hi1 : In aw1 hb (HB v (qu : Int) ct) := In.ofL (L := (b, _) :: Lm) M1
    refine again_x hi1 (by constructor) ?_
    have M2 := M1.perm List.perm_middle.symm
    refine app_p hv M2 (src_s (M1.im .here) rfl (.take .nil)) (by omega) rfl (by omega) fun mb aw2 M3 => ?_
    have M3 := M3.drop (.there .here)
    refine app_mv M3 .here (by simp) (src_x (n := np) (M3.im (.there (.there .here))) (by simp; omega) rfl) (by
      rw [List.drop_zero, Nat.mul_one, ← hps, take_W]; exact all_one_W (fun _ => rfl) _) (by omega) fun mb2 aw3 M4 => ?_
    refine nck_x (fldA_x ?_)
    refine st_x M4 (by repeat constructor) (by repeat constructor) rfl rfl rfl fun aw4 M5 => ?_
    rw [show min (1 : Int).toNat IntKind.u64.bits = 1 from rfl, wrap_u64, wrap_u64, show ((ws.length : Nat) : Int) % 18446744073709551616 * 2 ^ 1 % 18446744073709551616 = ((2 * ws.length : Nat) : Int) by omega]
    refine hQ mb2 aw4 ?_
    have e1 : (ws.map W ++ js).take (ws.length * 1) = ws.map W := by rw [Nat.mul_one, take_W]
    have e2 : ((ps.map W ++ pj).drop 0).take (np * 1) = ps.map W := by rw [List.drop_zero, Nat.mul_one, ← hps, take_W]
    rw [e1] at M5
    have e3 : ((ws.map W ++ [Value.int IntKind.u64 (Hd kind np)]).take ((ws.length + 1) * 1)) = ws.map W ++ [Value.int IntKind.u64 (Hd kind np)] := List.take_of_length_le (by simp)
    rw [e3, e2] at M5
    have e4 : WB (ws ++ [np * 2 ^ 8 + kind] ++ ps) [] = ⟨ws.map W ++ [Value.int IntKind.u64 (Hd kind np)] ++ ps.map W, 26, 1, true, 0⟩ := by
      have e0 : Value.int IntKind.u64 (Hd kind np) = W (np * 2 ^ 8 + kind) := rfl
      rw [e0]
      simp only [WB, List.map_append, List.map_cons, List.map_nil, List.append_nil]
    have e5 : (ws ++ [np * 2 ^ 8 + kind] ++ ps).length = ws.length + 1 + np := by simp only [List.length_append, List.length_cons, List.length_nil, hps]
    rw [e4, e5]
    exact M5
  refine F30_ok _ _ _ _ aw ?_
  unfold S30_0
  refine nilB_x rfl rfl (cnd_0x rfl ?_)
  have go : ∀ (lv : Value) (n : Nat) (os : List Value) (L : List (Nat × Blk)) (aw : AW), n < 2 ^ 31 → SlP 107 1 lv n os L → Hp aw0 own ro aw (L ++ (Lm ++ (hb, HB v (qu : Int) ct) :: (pb, WB ps pj) :: l)) →
      slen (.slice (some ⟨pb, 0, none⟩) np c) fun n96 => ∃ f, S30_1 Q E f (Pt hb) (kind : Int) (.slice (some ⟨pb, 0, none⟩) np c) lv n96 0 aw := by
    intro lv n os L aw hn hs M
    exact slen_x (hput_loop (by omega) K np 0 lv n os L aw (by omega) (by omega) hs M)
  rcases Nat.eq_zero_or_pos kr with rfl | hpos
  · exact app_none hr (go _ 0 [] [] aw (by omega) .nil M)
  · refine app_nil M hr hpos (by omega) fun b aw' M' => ?_
    exact go _ kr prs _ aw' (by omega) (.some (by have := hr.length; omega)) M'
end
end Go.Proofs.Tryd
