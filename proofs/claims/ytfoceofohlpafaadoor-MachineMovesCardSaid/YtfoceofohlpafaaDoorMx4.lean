/- machine: the roots; a machine's making. -/
import Derived.Test.YtfoceofohlpafaaDoorMx3
set_option linter.unusedSectionVars false
set_option linter.unusedSimpArgs false
set_option linter.unusedVariables false
namespace Go.Proofs.Tryd
open Go Go.Am Go.RowKit
variable [SymE]
set_option maxHeartbeats 1000000
def IsSl (v : Value) (n : Nat) : Prop := (v = .slice none 0 0 ∧ n = 0) ∨ ∃ b, v = Sl b n
theorem IsSl.val {v : Value} {n : Nat} (h : IsSl v n) : ∃ q c, v = .slice q n c := by
  rcases h with ⟨rfl, rfl⟩ | ⟨b, rfl⟩ <;> exact ⟨_, _, rfl⟩
theorem IsSl.slen {v : Value} {n : Nat} {K : Int → Prop} (h : IsSl v n) (hK : K (n : Int)) : slen v K := by
  obtain ⟨q, c, rfl⟩ := h.val
  exact slen_x hK
theorem slP_isSl {el size n : Nat} {v : Value} {os : List Value} {L : List (Nat × Blk)} (h : SlP el size v n os L) : IsSl v n := by
  cases h with
  | nil => exact .inl ⟨rfl, rfl⟩
  | some _ => exact .inr ⟨_, rfl⟩
section
variable {aw0 aw : AW} {own : List Nat} {ro l : List (Nat × Blk)} {m hb pb bs n c t e z j i : Nat} {h fu gl fr tr ad bu mo sk : Value} {fuel space most : Int} {js pj : List Value} {E : List PanicEntry → AW → Prop}
theorem ptr_app {v : Value} {n : Nat} {os : List Value} {L : List (Nat × Blk)} {p : Value} {K : Value → AW → Prop} (hs : SlP 107 1 v n os L) (ho : os.all one = true) (hp1 : one p = true) (M : Hp aw0 own ro aw (L ++ l)) (hn : n < 2 ^ 31)
    (hK : ∀ v' os' L' aw', SlP 107 1 v' (n + 1) os' L' → os'.all one = true → Hp aw0 own ro aw' (L' ++ l) → K v' aw') : alcS aw [p] 107 1 1 fun p11 aw12 => app aw12 107 1 8 v p11 K := by
  refine alcS_x M fun b aw1 M1 => ?_
  have M2 := M1.perm List.perm_middle.symm
  refine app_p hs M2 (src_s (M1.im .here) rfl (.take .nil)) (by omega) (by simp [hp1]) (by omega) fun b' aw' M => ?_
  have M := M.drop (.there .here)
  refine hK _ _ _ _ (.some (by simp; have := hs.len; omega)) ?_ M
  simp only [List.all_append, List.all_cons, List.all_nil, Bool.and_true, hp1]
  rw [List.all_eq_true] at ho ⊢
  exact fun x hx => ho x (List.mem_of_mem_take hx)
theorem roots_loop2 {Q : Value → AW → Prop} {ns : Nat} (hsk : IsSl sk ns) (hns : ns < 2 ^ 29)
    (K : ∀ (v : Value) (n : Nat) (os : List Value) (L : List (Nat × Blk)) (aw : AW), SlP 107 1 v n os L → os.all one = true → n < 2 ^ 31 → Hp aw0 own ro aw (L ++ (m, MB h fu gl sk fr tr fuel space most ad bu mo) :: l) → Q v aw) :
    ∀ (k i : Nat) (v : Value) (n : Nat) (os : List Value) (L : List (Nat × Blk)) (aw : AW), i + k = ns → n + k < 2 ^ 31 → SlP 107 1 v n os L → os.all one = true → Hp aw0 own ro aw (L ++ (m, MB h fu gl sk fr tr fuel space most ad bu mo) :: l) →
      ∃ f, S31_2 Q E f (Pt m) v (ns : Int) (i : Int) aw := by
  intro k
  induction k with
  | zero =>
    intro i v n os L aw hi hn hs ho M
    refine ⟨1, ?_⟩
    show S31_2s Q E _ (Pt m) v (ns : Int) (i : Int) aw
    unfold S31_2s
    exact cnd_0x (by simp; omega) (K v n os L aw hs ho (by omega) M)
  | succ k ih =>
    intro i v n os L aw hi hn hs ho M
    have hm : In aw m (MB h fu gl sk fr tr fuel space most ad bu mo) := In.ofL M
    have step : ∃ f, S31_2s Q E (S31_2 Q E f) (Pt m) v (ns : Int) (i : Int) aw := by
      have key : ∀ b j, ∃ f, alcS aw [.pointer (some ⟨b, j, none⟩)] 107 1 1 fun p11 aw12 => app aw12 107 1 8 v p11 fun v' aw' => S31_2 Q E f (Pt m) v' (ns : Int) (((i + 1 : Nat) : Int)) aw' := by
        intro b j
        have : alcS aw [.pointer (some ⟨b, j, none⟩)] 107 1 1 fun p11 aw12 => app aw12 107 1 8 v p11 fun v' aw' => ∃ f, S31_2 Q E f (Pt m) v' (ns : Int) (((i + 1 : Nat) : Int)) aw' :=
          ptr_app hs ho rfl M (by omega) fun v' os' L' aw' h1 h2 h3 => ih (i + 1) v' (n + 1) os' L' aw' (by omega) (by omega) h1 h2 h3
        obtain ⟨p, a1, e1, e2, v', a2, hap, f, hf⟩ := this
        exact ⟨f, p, a1, e1, e2, v', a2, hap, hf⟩
      have hix : ∃ f, ixS sk (i : Int) 1 fun p13 => one p13 = true ∧ alcS aw [p13] 107 1 1 fun p22 aw23 => app aw23 107 1 8 v p22 fun v27 aw28 => S31_2 Q E f (Pt m) v27 (ns : Int) (((i + 1 : Nat) : Int)) aw28 := by
        rcases hsk with ⟨rfl, h0⟩ | ⟨b, rfl⟩
        · omega
        · obtain ⟨f, hf⟩ := key b (0 + ((i : Nat) : Int).toNat * 1)
          exact ⟨f, ixS_x (by omega) (by omega) ⟨rfl, hf⟩⟩
      obtain ⟨f, hf⟩ := hix
      refine ⟨f, ?_⟩
      unfold S31_2s
      rw [show (i : Int) + 1 = ((i + 1 : Nat) : Int) by omega, i64_nat (by omega)]
      exact cnd_1x (by simp; omega) (nck_x (fldA_x (ldV_x hm (by repeat constructor) hf)))
    obtain ⟨f, hf⟩ := step
    exact ⟨f + 1, hf⟩
theorem roots_loop1 {Q : Value → AW → Prop} {ng : Nat} (hgl : IsSl gl ng) (hng : ng < 2 ^ 29)
    (K : ∀ (v : Value) (n : Nat) (os : List Value) (L : List (Nat × Blk)) (aw : AW), SlP 107 1 v n os L → os.all one = true → n < 2 ^ 30 → Hp aw0 own ro aw (L ++ (m, MB h fu gl sk fr tr fuel space most ad bu mo) :: l) →
      nck (Pt m) (fldA (Pt m) 3 fun p60 => ldV aw p60 fun x68 => slen x68 fun n70 => ∃ f, S31_2 Q E f (Pt m) v n70 0 aw)) :
    ∀ (k i : Nat) (v : Value) (n : Nat) (os : List Value) (L : List (Nat × Blk)) (aw : AW), i + k = ng → n + k < 2 ^ 30 → SlP 107 1 v n os L → os.all one = true → Hp aw0 own ro aw (L ++ (m, MB h fu gl sk fr tr fuel space most ad bu mo) :: l) →
      ∃ f, S31_1 Q E f (Pt m) v (ng : Int) (i : Int) aw := by
  intro k
  induction k with
  | zero =>
    intro i v n os L aw hi hn hs ho M
    refine ⟨1, ?_⟩
    show S31_1s Q E _ (Pt m) v (ng : Int) (i : Int) aw
    unfold S31_1s
    exact cnd_0x (by simp; omega) (K v n os L aw hs ho (by omega) M)
  | succ k ih =>
    intro i v n os L aw hi hn hs ho M
    have hm : In aw m (MB h fu gl sk fr tr fuel space most ad bu mo) := In.ofL M
    have step : ∃ f, S31_1s Q E (S31_1 Q E f) (Pt m) v (ng : Int) (i : Int) aw := by
      have key : ∀ b j, ∃ f, alcS aw [.pointer (some ⟨b, j, none⟩)] 107 1 1 fun p11 aw12 => app aw12 107 1 8 v p11 fun v' aw' => S31_1 Q E f (Pt m) v' (ng : Int) (((i + 1 : Nat) : Int)) aw' := by
        intro b j
        have : alcS aw [.pointer (some ⟨b, j, none⟩)] 107 1 1 fun p11 aw12 => app aw12 107 1 8 v p11 fun v' aw' => ∃ f, S31_1 Q E f (Pt m) v' (ng : Int) (((i + 1 : Nat) : Int)) aw' :=
          ptr_app hs ho rfl M (by omega) fun v' os' L' aw' h1 h2 h3 => ih (i + 1) v' (n + 1) os' L' aw' (by omega) (by omega) h1 h2 h3
        obtain ⟨p, a1, e1, e2, v', a2, hap, f, hf⟩ := this
        exact ⟨f, p, a1, e1, e2, v', a2, hap, hf⟩
      have hix : ∃ f, ixS gl (i : Int) 1 fun p13 => one p13 = true ∧ alcS aw [p13] 107 1 1 fun p22 aw23 => app aw23 107 1 8 v p22 fun v27 aw28 => S31_1 Q E f (Pt m) v27 (ng : Int) (((i + 1 : Nat) : Int)) aw28 := by
        rcases hgl with ⟨rfl, h0⟩ | ⟨b, rfl⟩
        · omega
        · obtain ⟨f, hf⟩ := key b (0 + ((i : Nat) : Int).toNat * 1)
          exact ⟨f, ixS_x (by omega) (by omega) ⟨rfl, hf⟩⟩
      obtain ⟨f, hf⟩ := hix
      refine ⟨f, ?_⟩
      unfold S31_1s
      rw [show (i : Int) + 1 = ((i + 1 : Nat) : Int) by omega, i64_nat (by omega)]
      exact cnd_1x (by simp; omega) (nck_x (fldA_x (ldV_x hm (by repeat constructor) hf)))
    obtain ⟨f, hf⟩ := step
    exact ⟨f + 1, hf⟩
theorem roots_x {Q : Value → AW → Prop} {ng ns : Nat} (hgl : IsSl gl ng) (hsk : IsSl sk ns) (hng : ng < 2 ^ 29) (hns : ns < 2 ^ 29) (M : Hp aw0 own ro aw ((m, MB h fu gl sk fr tr fuel space most ad bu mo) :: l))
    (hQ : ∀ v n os L aw', SlP 107 1 v n os L → os.all one = true → n < 2 ^ 31 → Hp aw0 own ro aw' (L ++ (m, MB h fu gl sk fr tr fuel space most ad bu mo) :: l) → Q v aw') : CallP prog 31 [Pt m] aw sh31 Q E := by
  refine F31_ok _ aw ?_
  unfold S31_0
  refine nck_x (fldA_x (ldV_x (M.im .here) (by repeat constructor) ?_))
  have go : ∃ f, S31_1 Q E f (Pt m) (.slice none 0 0) (ng : Int) 0 aw := roots_loop1 hgl hng (fun v n os L aw hs ho hn M => by
    have hm : In aw m (MB h fu gl sk fr tr fuel space most ad bu mo) := In.ofL M
    refine nck_x (fldA_x (ldV_x hm (by repeat constructor) ?_))
    have := roots_loop2 (E := E) hsk hns (fun v n os L aw h1 h2 h3 h4 => hQ v n os L aw h1 h2 h3 h4) ns 0 v n os L aw (by omega) (by omega) hs ho M
    exact hsk.slen this) ng 0 _ 0 [] [] aw (by omega) (by omega) .nil rfl M
  exact hgl.slen go
end
end Go.Proofs.Tryd
