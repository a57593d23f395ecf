/- octet: the writer; sums. -/
import Derived.Test.YtfgihmgeplcfoaaGreatDoorNbS1
import Derived.Test.YtfgihmgeplcfoaaGreatDoorL5
set_option linter.unusedSimpArgs false
set_option linter.unusedVariables false
set_option linter.unusedSectionVars false
namespace Go.Proofs.Tryz
open Go Go.Am Go.RowKit Go.Oc
variable [SymE]
theorem ob_one {el : Nat} {v : Value} {bs : List UInt8} {L : List (Nat × Blk)} (h : Ob el v bs L) : one v = true := by
  cases h <;> rfl
section
variable {aw0 aw : AW} {own : List Nat} {ro l L S : List (Nat × Blk)} {E : List PanicEntry → AW → Prop} {v pv : Value} {bs cs : List UInt8}
theorem push_b {X : Value → AW → Prop} {c : UInt8} {x : Int} {A : List (Nat × Blk)} (hx : x = (c.toNat : Int)) (ho : Ob 5 pv bs L) (hl : bs.length < 2 ^ 43) (M : Hp aw0 own ro aw (A ++ (L ++ l))) {R : Value → AW → Prop}
    (hR : ∀ b aw1, Hp aw0 own ro aw1 (A ++ ((b, ⟨[.int .u8 x], 5, 1, true, 0⟩) :: (L ++ l))) → ∀ {Y : Prop}, Y → (R (.slice (some ⟨b, 0, none⟩) 1 1) aw1) ∧ Y)
    (h : ∀ v' L' aw', Ob 5 v' (bs ++ [c]) L' → Hp aw0 own ro aw' (A ++ (L' ++ l)) → X v' aw') : alcS aw [.int .u8 x] 5 1 1 fun p aw1 => R p aw1 ∧ app aw1 5 1 1 pv p X := by
  subst hx
  refine alcS_x M fun b aw1 M1 => ?_
  have M2 : Hp aw0 own ro aw1 (A ++ ((b, ⟨[.int .u8 (c.toNat : Int)], 5, 1, true, 0⟩) :: (L ++ l))) := M1.perm List.perm_middle.symm
  refine hR b aw1 M2 ?_
  have M3 : Hp aw0 own ro aw1 (L ++ ((b, ⟨[.int .u8 (c.toNat : Int)], 5, 1, true, 0⟩) :: (A ++ l))) := M1.perm (by
    classical exact List.perm_iff_count.2 fun a => by simp only [List.count_append, List.count_cons]; ac_rfl)
  have hsrc : Src aw1 1 (.slice (some ⟨b, 0, none⟩) 1 1) [c].length (bytesV [c]) := src_x (M1.im .here) (by simp) (by simp [bytesV])
  refine app_ob (cs := [c]) ho M3 hsrc (by simp; omega) fun v' L' aw' h1 _ M4 => ?_
  refine h v' L' aw' h1 ?_
  have M5 : Hp aw0 own ro aw' ((b, ⟨[.int .u8 (c.toNat : Int)], 5, 1, true, 0⟩) :: (L' ++ (A ++ l))) := M4.perm List.perm_middle
  exact (M5.drop .here).perm (by
    classical exact List.perm_iff_count.2 fun a => by simp only [List.count_append, List.count_cons]; ac_rfl)
theorem push_b0 {X : Value → AW → Prop} {c : UInt8} {x : Int} {A : List (Nat × Blk)} (hx : x = (c.toNat : Int)) (ho : Ob 5 pv bs L) (hl : bs.length < 2 ^ 43) (M : Hp aw0 own ro aw (A ++ (L ++ l)))
    (h : ∀ v' L' aw', Ob 5 v' (bs ++ [c]) L' → Hp aw0 own ro aw' (A ++ (L' ++ l)) → X v' aw') : alcS aw [.int .u8 x] 5 1 1 fun p aw1 => app aw1 5 1 1 pv p X := by
  have := push_b (R := fun _ _ => True) hx ho hl M (fun b aw1 M1 Y hY => ⟨trivial, hY⟩) h
  obtain ⟨p, aw1, h1, h2, h3⟩ := this
  exact ⟨p, aw1, h1, h2, h3.2⟩
theorem w8 {k : Nat} (h : k ≤ 8) : IntKind.i64.wrap (8 * (k : Int)) = ((8 * k : Nat) : Int) := by
  rw [show 8 * (k : Int) = ((8 * k : Nat) : Int) by omega, i64_nat (by omega)]
theorem shr_n {n k : Nat} (hk : k ≤ 8) : Int.fdiv (n : Int) (2 ^ (min (IntKind.i64.wrap (8 * (k : Int))).toNat IntKind.u64.bits)) = ((n / 256 ^ k : Nat) : Int) := by
  rw [w8 hk]
  have : min ((8 * k : Nat) : Int).toNat IntKind.u64.bits = 8 * k := by
    show min ((8 * k : Nat) : Int).toNat 64 = 8 * k
    omega
  rw [this, fdiv_nat, pow8]
end
end Go.Proofs.Tryz
