/- The document's octet: what its functions do. -/
import Derived.Test.YtfgihmgeplcfoaaGreatDoorNbS2
import Derived.Test.YtfgihmgeplcfoaaGreatDoorNaW
set_option linter.unusedSimpArgs false
set_option linter.unusedVariables false
set_option linter.unusedSectionVars false
namespace Go.Proofs.Tryz
open Go Go.Am Go.RowKit Go.Oc
variable [SymE]
theorem tmod_n (n k : Nat) : Int.tmod (n : Int) (k : Int) = ((n % k : Nat) : Int) := rfl
theorem tdiv_n (n k : Nat) : Int.tdiv (n : Int) (k : Int) = ((n / k : Nat) : Int) := rfl
section
variable {aw0 aw : AW} {own : List Nat} {ro l L S : List (Nat × Blk)} {E : List PanicEntry → AW → Prop} {v pv : Value} {bs cs : List UInt8} {rb : Nat}
theorem toS_b {X : ByteArray → Prop} (h : Rb aw v bs) (hX : X ⟨bs.toArray⟩) : toS aw v X := by
  obtain ⟨q, c, e⟩ := h.len
  exact ⟨bs, bs.length, _, h.src, ⟨q, _, c, e⟩, rfl, hX⟩
theorem againS_b {K : Prop} (h : Rb aw v bs) (hK : K) : againS aw v ⟨bs.toArray⟩ ∧ K := by
  refine ⟨fun l n hl _ hs => ?_, hK⟩
  have e : bs = l := by
    injection hs with hs
    exact congrArg Array.toList hs
  subst e
  rw [← hl]
  exact h.src
theorem r_low {Q : Value → AW → Prop} {n0 : Nat} (hn0 : n0 < 2 ^ 64)
    (hQ : ∀ v' L' aw', Ob 5 v' (encU n0) L' → Hp aw0 own ro aw' (L' ++ l) → Q v' aw') : ∀ (low : Value) (L : List (Nat × Blk)) (aw : AW), Ob 5 low (lowB n0) L → Hp aw0 own ro aw (L ++ l) →
      ∀ (k : Nat) (p : Value) (L2 : List (Nat × Blk)) (aw : AW), k ≤ (lowB n0).length → Ob 5 p (UInt8.ofNat (lowB n0).length :: ((lowB n0).drop k).reverse) L2 → Hp aw0 own ro aw (L ++ (L2 ++ l)) → S25_2 Q E (k + 1) low p ((k : Int) - 1) aw
  | low, L, _, ho, _, 0, p, L2, aw, hk, h2, M => by
    show S25_2s Q E (S25_2 Q E 0) _ _ _ aw
    unfold S25_2s
    refine cnd_0x (by decide) (hQ p L2 aw (by simpa [encU] using h2) (M.dropL))
  | low, L, aw00, ho, M00, k + 1, p, L2, aw, hk, h2, M => by
    show S25_2s Q E (S25_2 Q E (k + 1)) _ _ _ aw
    unfold S25_2s
    have h8 := low8 hn0
    rw [show ((k + 1 : Nat) : Int) - 1 = (k : Int) by omega]
    have hlt : k < (lowB n0).length := by omega
    refine cnd_1x (decide_eq_true (by omega)) (ix_b (ho.rs aw _ M fun p hp => List.mem_append.2 (.inl hp)) rfl (List.getElem?_eq_getElem hlt) (fun p h => h) ?_)
    refine push_b0 (A := L) rfl h2 (by simp; omega) M fun v' L' aw' h1 M' => ?_
    rw [i64_in (n := (k : Int) - 1) (by omega) (by omega)]
    refine r_low hn0 hQ low L aw00 ho M00 k v' L' aw' (by omega) ?_ M'
    have e : (lowB n0).drop k = (lowB n0)[k] :: (lowB n0).drop (k + 1) := List.drop_eq_getElem_cons hlt
    rw [e, List.reverse_cons]
    simpa using h1
theorem r_uint {Q : Value → AW → Prop} {n0 : Nat} (hn0 : n0 < 2 ^ 64) (M : Hp aw0 own ro aw l) (hQ : ∀ v' L' aw', Ob 5 v' (encU n0) L' → Hp aw0 own ro aw' (L' ++ l) → Q v' aw') : CallP prog 25 [.int .u64 (n0 : Int)] aw sh25 Q E := by
  refine F25_ok _ aw ?_
  unfold S25_0
  have h8 := low8 hn0
  refine ⟨(lowB n0).length + 1, ?_⟩
  have key : ∀ (m n : Nat) (low : Value) (pre : List UInt8) (L : List (Nat × Blk)) (aw : AW), (lowB n).length = m → pre ++ lowB n = lowB n0 → n < 2 ^ 64 → Ob 5 low pre L → Hp aw0 own ro aw (L ++ l) → S25_1 Q E (m + 1) (n : Int) low aw := by
    intro m
    induction m with
    | zero =>
      intro n low pre L aw hm hp hn ho M
      have hn0' : n = 0 := by
        cases n with
        | zero => rfl
        | succ n => rw [lowB_pos (by omega)] at hm; simp at hm
      subst hn0'
      rw [lowB_zero, List.append_nil] at hp
      subst hp
      show S25_1s Q E (S25_1 Q E 0) _ _ aw
      unfold S25_1s
      refine cnd_0x (by decide) (slen_b (ho.rs aw _ M fun p hp => List.mem_append.2 (.inl hp)) ?_)
      rw [u8_nat]
      refine alcS_x M fun b aw2 M2 => ?_
      refine slen_b (ho.rs aw2 _ M2 fun p hp => List.mem_cons_of_mem _ (List.mem_append.2 (.inl hp))) ?_
      rw [i64_in (n := ((lowB n0).length : Int) - 1) (by omega) (by omega)]
      refine ⟨(lowB n0).length + 1, ?_⟩
      have hc : (((lowB n0).length % 256 : Nat) : Int) = ((UInt8.ofNat (lowB n0).length).toNat : Int) := by simp
      rw [hc] at M2
      have ho2 : Ob 5 (.slice (some ⟨b, 0, none⟩) 1 1) (UInt8.ofNat (lowB n0).length :: ((lowB n0).drop (lowB n0).length).reverse) [(b, ⟨[.int .u8 ((UInt8.ofNat (lowB n0).length).toNat : Int)], 5, 1, true, 0⟩)] := by
        rw [List.drop_length]
        exact .blk rfl (.inl rfl)
      exact r_low hn0 hQ low L aw ho M (lowB n0).length _ _ aw2 (Nat.le_refl _) ho2 (M2.perm List.perm_middle.symm)
    | succ m ih =>
      intro n low pre L aw hm hp hn ho M
      have hpos : 0 < n := by
        cases n with
        | zero => rw [lowB_zero] at hm; cases hm
        | succ n => omega
      show S25_1s Q E (S25_1 Q E (m + 1)) _ _ aw
      unfold S25_1s
      have e1 : IntKind.u8.wrap (Int.tmod (n : Int) 256) = ((UInt8.ofNat (n % 256)).toNat : Int) := by
        have := tmod_n n 256
        rw [show ((256 : Nat) : Int) = 256 from rfl] at this
        rw [this, u8_nat]; simp
      have e2 : IntKind.u64.wrap (Int.tdiv (n : Int) 256) = ((n / 256 : Nat) : Int) := by
        have := tdiv_n n 256
        rw [show ((256 : Nat) : Int) = 256 from rfl] at this
        rw [this, u64_nat (by omega)]
      rw [e1, e2]
      have hl := lowB_pos hpos
      have hpl : pre.length < 2 ^ 43 := by
        have := congrArg List.length hp
        simp at this
        omega
      refine cnd_1x (decide_eq_true (by omega)) (push_b0 (A := []) rfl ho hpl M fun v' L' aw' h1 M' => ?_)
      refine ih (n / 256) v' (pre ++ [UInt8.ofNat (n % 256)]) L' aw' (by rw [hl] at hm; simpa using hm) (by rw [← hp, hl]; simp) (by omega) h1 M'
  exact key (lowB n0).length n0 _ [] [] aw rfl rfl hn0 .nil M
end
end Go.Proofs.Tryz
