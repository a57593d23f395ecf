/- The document's octet: numbers with a sign, and bytes, laid. -/
import Derived.Test.YtfgihmgeplcfoaaGreatDoorNbS3
import Derived.Test.YtfgihmgeplcfoaaGreatDoorNaW
set_option linter.unusedSimpArgs false
set_option linter.unusedVariables false
set_option linter.unusedSectionVars false
namespace Go.Proofs.Tryz
open Go Go.Am Go.RowKit Go.Oc
variable [SymE]
section
variable {aw0 aw : AW} {own : List Nat} {ro l L S : List (Nat × Blk)} {E : List PanicEntry → AW → Prop} {v pv : Value} {bs cs : List UInt8}
theorem r_int {Q : Value → AW → Prop} {n : Int} (h1 : -9223372036854775808 ≤ n) (h2 : n < 9223372036854775808) (M : Hp aw0 own ro aw l) (hQ : ∀ v' L' aw', Ob 5 v' (encU (zig n)) L' → Hp aw0 own ro aw' (L' ++ l) → Q v' aw') : CallP prog 23 [.int .i64 n] aw sh23 Q E := by
  refine F23_ok _ aw ?_
  unfold S23_0
  have hz := zig_lt h1 h2
  by_cases h : n < 0
  · refine cnd_1x (decide_eq_true h) ?_
    have e : IntKind.u64.wrap ((IntKind.u64.wrap ((IntKind.u64.wrap (IntKind.i64.wrap (-(IntKind.i64.wrap (n + 1))))) * 2)) + 1) = ((zig n : Nat) : Int) := by
      rw [i64_in (n := n + 1) (by omega) (by omega), i64_in (n := -(n + 1)) (by omega) (by omega), wrap_u64, wrap_u64, wrap_u64]
      unfold zig
      rw [if_pos h]
      omega
    rw [e]
    exact r_uint hz M hQ
  · refine cnd_0x (decide_eq_false h) ?_
    have e : IntKind.u64.wrap ((IntKind.u64.wrap n) * 2) = ((zig n : Nat) : Int) := by
      rw [wrap_u64, wrap_u64]
      unfold zig
      rw [if_neg h]
      omega
    rw [e]
    exact r_uint hz M hQ
theorem r_bytes {Q : Value → AW → Prop} (hc : cs.length < 2 ^ 40) (M : Hp aw0 own ro aw l) (hR : Rws aw0 own ro S v cs) (hS : ∀ p ∈ S, p ∈ l) (hQ : ∀ v' L' aw', Ob 5 v' (encB cs) L' → Hp aw0 own ro aw' (L' ++ l) → Q v' aw') : CallP prog 24 [v] aw sh24 Q E := by
  refine F24_ok _ aw ?_
  unfold S24_0
  refine slen_w (hR aw _ M hS) ?_
  rw [u64_nat (by omega)]
  refine r_uint (by omega) M fun v1 L1 aw1 h1 M1 => ?_
  have he : (encU cs.length).length ≤ 9 := encU_len (by omega)
  refine app_ob (cs := cs) h1 M1 (hR aw1 _ M1 fun p hp => List.mem_append.2 (.inr (hS p hp))).src (by omega) fun v' L' aw2 h2 _ M3 => ?_
  exact hQ v' L' aw2 h2 M3
end
end Go.Proofs.Tryz
