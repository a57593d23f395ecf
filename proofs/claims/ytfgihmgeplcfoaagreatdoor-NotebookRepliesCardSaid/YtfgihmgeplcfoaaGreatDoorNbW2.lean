/- octet: the writer. -/
import Derived.Test.YtfgihmgeplcfoaaGreatDoorNbS2
import Derived.Test.YtfgihmgeplcfoaaGreatDoorNaW
set_option linter.unusedSimpArgs false
set_option linter.unusedVariables false
set_option linter.unusedSectionVars false
namespace Go.Proofs.Tryz
open Go Go.Am Go.RowKit Go.Oc
variable [SymE]
abbrev WBk (pv : Value) : Blk := ⟨[pv], 47, 0, true, 0⟩
section
variable {aw0 aw : AW} {own : List Nat} {ro l L S : List (Nat × Blk)} {E : List PanicEntry → AW → Prop} {v pv : Value} {bs cs : List UInt8} {wb : Nat}
theorem wuint_down {Q : Value → AW → Prop} {n : Nat} (hn : n < 2 ^ 64) (hl : bs.length < 2 ^ 42) (hQ : ∀ pv' L' aw', Ob 5 pv' (bs ++ encU n) L' → Hp aw0 own ro aw' ((wb, WBk pv') :: (L' ++ l)) → Q (P0 wb) aw') :
    ∀ (k : Nat) (aw : AW) (pv : Value) (L : List (Nat × Blk)), k ≤ (lowB n).length → Ob 5 pv (bs ++ UInt8.ofNat (lowB n).length :: ((lowB n).drop k).reverse) L → Hp aw0 own ro aw ((wb, WBk pv) :: (L ++ l)) → S15_2 Q E (k + 1) (P0 wb) (n : Int) ((k : Int) - 1) aw
  | 0, aw, pv, L, hk, ho, M => by
    show S15_2s Q E (S15_2 Q E 0) _ _ _ aw
    unfold S15_2s
    exact cnd_0x (by decide) (hQ pv L aw (by simpa [encU] using ho) M)
  | k + 1, aw, pv, L, hk, ho, M => by
    show S15_2s Q E (S15_2 Q E (k + 1)) _ _ _ aw
    unfold S15_2s
    have h8 := low8 hn
    rw [show ((k + 1 : Nat) : Int) - 1 = (k : Int) by omega]
    refine cnd_1x (decide_eq_true (by omega)) (nck_x (fldA_x (ldV_x (M.im .here) (by repeat constructor) ⟨by rw [w8 (by omega)]; omega, ?_⟩)))
    rw [shr_n (by omega), u8_nat]
    have hlt : k < (lowB n).length := by omega
    have hc : ((n / 256 ^ k % 256 : Nat) : Int) = (((lowB n)[k]).toNat : Int) := by
      rw [low_get hlt]; simp
    refine push_b (A := [(wb, WBk pv)]) hc ho (by simp; omega) M (fun b aw1 M1 Y hY => ?_) fun v' L' aw' h1 M' => ?_
    · exact again_x (M1.im .here) (by repeat constructor) hY
    · refine nck_x (fldA_x (st_x M' .here (by repeat constructor) rfl rfl (by simp [ob_one h1]) fun aw2 M2 => ?_))
      rw [i64_in (n := (k : Int) - 1) (by omega) (by omega)]
      refine wuint_down hn hl hQ k aw2 v' L' (by omega) ?_ M2
      have e : (lowB n).drop k = (lowB n)[k] :: (lowB n).drop (k + 1) := List.drop_eq_getElem_cons hlt
      rw [e, List.reverse_cons]
      simpa using h1
theorem wuint_x {Q : Value → AW → Prop} {n : Nat} (hn : n < 2 ^ 64) (hl : bs.length < 2 ^ 42) (ho : Ob 5 pv bs L) (M : Hp aw0 own ro aw ((wb, WBk pv) :: (L ++ l)))
    (hQ : ∀ pv' L' aw', Ob 5 pv' (bs ++ encU n) L' → Hp aw0 own ro aw' ((wb, WBk pv') :: (L' ++ l)) → Q (P0 wb) aw') : CallP prog 15 [P0 wb, .int .u64 (n : Int)] aw sh15 Q E := by
  refine F15_ok _ _ aw ?_
  unfold S15_0
  have h8 := low8 hn
  refine ⟨(lowB n).length + 1, ?_⟩
  have key : ∀ m k, k + m = (lowB n).length → S15_1 Q E (m + 1) (P0 wb) (n : Int) (k : Int) aw := by
    intro m
    induction m with
    | zero =>
      intro k hk
      show S15_1s Q E (S15_1 Q E 0) _ _ _ aw
      unfold S15_1s
      refine ⟨by rw [w8 (by omega)]; omega, ?_⟩
      rw [shr_n (by omega)]
      have h0 : ¬ (0 < n / 256 ^ k) := fun h => by have := (low_pos n k).1 h; omega
      refine cnd_0x (decide_eq_false (by omega)) (nck_x (fldA_x (ldV_x (M.im .here) (by repeat constructor) ?_)))
      rw [u8_nat]
      have hc : ((k % 256 : Nat) : Int) = ((UInt8.ofNat (lowB n).length).toNat : Int) := by
        rw [← hk]; simp
      refine push_b0 (A := [(wb, WBk pv)]) hc ho (by omega) M fun v' L' aw' h1 M' => ?_
      refine nck_x (fldA_x (st_x M' .here (by repeat constructor) rfl rfl (by simp [ob_one h1]) fun aw2 M2 => ⟨(lowB n).length + 1, ?_⟩))
      rw [i64_in (n := (k : Int) - 1) (by omega) (by omega)]
      have hkl : k = (lowB n).length := by omega
      subst hkl
      refine wuint_down hn hl hQ _ aw2 v' L' (Nat.le_refl _) ?_ M2
      rw [List.drop_length]
      simpa using h1
    | succ m ih =>
      intro k hk
      show S15_1s Q E (S15_1 Q E (m + 1)) _ _ _ aw
      unfold S15_1s
      refine ⟨by rw [w8 (by omega)]; omega, ?_⟩
      rw [shr_n (by omega)]
      have h0 := (low_pos n k).2 (by omega)
      refine cnd_1x (decide_eq_true (by omega)) (cnd_1x (decide_eq_true (by omega)) ?_)
      rw [show (k : Int) + 1 = ((k + 1 : Nat) : Int) by omega, i64_nat (by omega)]
      exact ih (k + 1) (by omega)
  exact key (lowB n).length 0 (by omega)
theorem wint_x {Q : Value → AW → Prop} {n : Int} (h1 : -9223372036854775808 ≤ n) (h2 : n < 9223372036854775808) (hl : bs.length < 2 ^ 42) (ho : Ob 5 pv bs L) (M : Hp aw0 own ro aw ((wb, WBk pv) :: (L ++ l)))
    (hQ : ∀ pv' L' aw', Ob 5 pv' (bs ++ encU (zig n)) L' → Hp aw0 own ro aw' ((wb, WBk pv') :: (L' ++ l)) → Q (P0 wb) aw') : CallP prog 13 [P0 wb, .int .i64 n] aw sh13 Q E := by
  refine F13_ok _ _ aw ?_
  unfold S13_0
  rw [zig_eq h1 h2]
  exact wuint_x (zig_lt h1 h2) hl ho M fun pv' L' aw' h M' => hQ pv' L' aw' h M'
theorem wbytes_x {Q : Value → AW → Prop} (hl : bs.length < 2 ^ 41) (hc : cs.length < 2 ^ 40) (ho : Ob 5 pv bs L) (M : Hp aw0 own ro aw ((wb, WBk pv) :: (L ++ l))) (hR : Rws aw0 own ro S v cs) (hS : ∀ p ∈ S, p ∈ l)
    (hQ : ∀ pv' L' aw', Ob 5 pv' (bs ++ encB cs) L' → Hp aw0 own ro aw' ((wb, WBk pv') :: (L' ++ l)) → Q (P0 wb) aw') : CallP prog 31 [P0 wb, v] aw sh31 Q E := by
  refine F31_ok _ _ aw ?_
  unfold S31_0
  have hS' : ∀ (x : Nat × Blk) (L' : List (Nat × Blk)), ∀ p ∈ S, p ∈ x :: (L' ++ l) := fun x L' p hp => List.mem_cons_of_mem _ (List.mem_append.2 (.inr (hS p hp)))
  refine slen_w (hR aw _ M (hS' _ _)) ?_
  rw [u64_nat (by omega)]
  refine wuint_x (by omega) (by omega) ho M fun pv1 L1 aw1 h1 M1 => ?_
  refine nck_x (fldA_x (ldV_x (M1.im .here) (by repeat constructor) ?_))
  have M2 : Hp aw0 own ro aw1 (L1 ++ ((wb, WBk pv1) :: l)) := M1.perm List.perm_middle.symm
  have he : (encU cs.length).length ≤ 9 := encU_len (by omega)
  refine app_ob (cs := cs) h1 M2 (hR aw1 _ M1 (hS' _ _)).src (by simp; omega) fun v' L' aw2 h2 _ M3 => ?_
  have M4 : Hp aw0 own ro aw2 ((wb, WBk pv1) :: (L' ++ l)) := M3.perm List.perm_middle
  refine nck_x (fldA_x (st_x M4 .here (by repeat constructor) rfl rfl (by simp [ob_one h2]) fun aw3 M5 => ?_))
  exact hQ v' L' aw3 (by simpa [encB] using h2) M5
theorem done_x {Q : Value → AW → Prop} (hl : bs.length < 2 ^ 43) (ho : Ob 5 pv bs L) (M : Hp aw0 own ro aw ((wb, WBk pv) :: (L ++ l)))
    (hQ : ∀ v' L' aw', Ob 5 v' bs L' → Hp aw0 own ro aw' (L' ++ ((wb, WBk pv) :: (L ++ l))) → Q v' aw') : CallP prog 16 [P0 wb] aw sh16 Q E := by
  refine F16_ok _ aw ?_
  unfold S16_0
  refine nck_x (fldA_x (ldV_x (M.im .here) (by repeat constructor) ?_))
  exact clone_x M (ho.rs) (fun p hp => List.mem_cons_of_mem _ (List.mem_append.2 (.inl hp))) (by omega) fun v' L' aw' h1 _ M' => hQ v' L' aw' h1 M'
end
end Go.Proofs.Tryz
