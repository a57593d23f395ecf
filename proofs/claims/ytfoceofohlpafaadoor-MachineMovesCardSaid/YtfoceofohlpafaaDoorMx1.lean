/- machine: the heap's functions, and those of the stack. -/
import Derived.Test.YtfoceofohlpafaaDoorMaA
import Derived.Test.YtfoceofohlpafaaDoorMaB
import Derived.Test.YtfoceofohlpafaaDoorMaC
import Derived.Test.YtfoceofohlpafaaDoorMxN
set_option linter.unusedSectionVars false
set_option linter.unusedSimpArgs false
set_option linter.unusedVariables false
namespace Go.Proofs.Tryd
open Go Go.Am Go.RowKit
variable [SymE]
set_option maxHeartbeats 1000000
abbrev W (n : Nat) : Value := .int .u64 (n : Int)
theorem Cell.of : ∀ {cs : List Value} {i : Nat} {v : Value}, cs[i]? = some v → Cell cs i v
  | [], i, v, h => by simp at h
  | c :: r, 0, v, h => by simp at h; subst h; exact .here
  | c :: r, i + 1, v, h => .there (Cell.of (by simpa using h))
theorem cellW {ws : List Nat} {js : List Value} {j x : Nat} (h : ws[j]? = some x) : Cell (ws.map W ++ js) (0 + ((j : Nat) : Int).toNat * 1) (W x) := by
  refine Cell.of ?_
  have hl : j < ws.length := (List.getElem?_eq_some_iff.1 h).1
  rw [show 0 + ((j : Nat) : Int).toNat * 1 = j by omega, List.getElem?_append_left (by simpa using hl), List.getElem?_map, h]
  rfl
theorem i64_nat {n : Nat} (h : n < 2 ^ 63) : IntKind.i64.wrap (n : Int) = n := i64_in (by omega) (by omega)
section
variable {aw0 aw : AW} {own : List Nat} {ro l : List (Nat × Blk)} {hb mb n c t e z j i : Nat} {r : Bool} {x2 x3 : Value} {ws : List Nat} {E : List PanicEntry → AW → Prop}
theorem num_x {Q : Int → AW → Prop} (n : Int) (h : Q (Wn n) aw) : CallP prog 14 [.int .i64 n] aw sh14 Q E := by
  refine F14_ok _ aw ?_
  unfold S14_0
  rw [num_eq]; exact h
theorem isnum_x {Q : Bool → AW → Prop} {w : Int} (h0 : 0 ≤ w) (h1 : w < 18446744073709551616) (h : Q (decide (w % 2 = 1)) aw) : CallP prog 49 [.int .u64 w] aw sh49 Q E := by
  refine F49_ok _ aw ?_
  unfold S49_0
  rw [isnum_eq h0 h1]; exact h
theorem n_x {Q : Int → AW → Prop} (w : Int) (h : Q (Nw w) aw) : CallP prog 73 [.int .u64 w] aw sh73 Q E := by
  refine F73_ok _ aw ?_
  unfold S73_0
  exact h
theorem at_x {Q : Int → AW → Prop} {q : Option Addr} (hi : In aw hb ⟨[.slice q n c, x2, x3], t, e, r, z⟩) (hj : j < n) (hn : n < 2 ^ 60) (h : Q (j : Int) aw) :
    CallP prog 41 [.pointer (some ⟨hb, 0, none⟩), .int .u64 ((2 * j : Nat) : Int)] aw sh41 Q E := by
  refine F41_ok _ _ aw ?_
  unfold S41_0
  refine nilB_x rfl rfl (cnd_0x rfl (isnum_x (by omega) (by omega) (cnd_0x ?_ (nck_x (fldA_x (ldV_x hi (by constructor) (slen_x (cnd_0x ?_ ?_))))))))
  · simp
  · simp only [decide_eq_false_iff_not, wrap_u64, show min (1 : Int).toNat IntKind.u64.bits = 1 from rfl]
    rw [show Int.fdiv ((2 * j : Nat) : Int) (2 ^ 1) = (j : Int) by rw [Int.fdiv_eq_ediv_of_nonneg _ (by decide)]; omega]
    omega
  · rw [show min (1 : Int).toNat IntKind.u64.bits = 1 from rfl, show Int.fdiv ((2 * j : Nat) : Int) (2 ^ 1) = (j : Int) by rw [Int.fdiv_eq_ediv_of_nonneg _ (by decide)]; omega, i64_nat (by omega)]
    exact h
theorem kind_x {Q : Int → AW → Prop} {e' t' : Nat} {r' : Bool} {z' : Nat} {js : List Value} (hi : In aw hb ⟨[.slice (some ⟨mb, 0, none⟩) n c, x2, x3], t, e, r, z⟩) (hm : In aw mb ⟨ws.map W ++ js, t', e', r', z'⟩) (hn : n < 2 ^ 60) (hl : n = ws.length) {x : Nat} (hj : ws[j]? = some x)
    (h : Q (((x % 256 : Nat) : Nat) : Int) aw) : CallP prog 38 [.pointer (some ⟨hb, 0, none⟩), .int .u64 ((2 * j : Nat) : Int)] aw sh38 Q E := by
  have hlt : j < ws.length := (List.getElem?_eq_some_iff.1 hj).1
  refine F38_ok _ _ aw ?_
  unfold S38_0
  refine at_x hi (by omega) hn (cnd_1x (by simp) (nck_x (fldA_x (ldV_x hi (by constructor) (ixS_x (by omega) (by omega) (ldI_x hm (cellW hj) ?_))))))
  · rw [wrap_u8, show ((x : Nat) : Int) % 256 = ((x % 256 : Nat) : Int) by omega]; exact h
theorem len_x {Q : Int → AW → Prop} {e' t' : Nat} {r' : Bool} {z' : Nat} {js : List Value} (hi : In aw hb ⟨[.slice (some ⟨mb, 0, none⟩) n c, x2, x3], t, e, r, z⟩) (hm : In aw mb ⟨ws.map W ++ js, t', e', r', z'⟩) (hn : n < 2 ^ 60) (hl : n = ws.length) {x : Nat} (hj : ws[j]? = some x) (hx : x < 2 ^ 64)
    (h : Q (((x / 256 : Nat) : Nat) : Int) aw) : CallP prog 39 [.pointer (some ⟨hb, 0, none⟩), .int .u64 ((2 * j : Nat) : Int)] aw sh39 Q E := by
  have hlt : j < ws.length := (List.getElem?_eq_some_iff.1 hj).1
  refine F39_ok _ _ aw ?_
  unfold S39_0
  refine at_x hi (by omega) hn (cnd_1x (by simp) (nck_x (fldA_x (ldV_x hi (by constructor) (ixS_x (by omega) (by omega) (ldI_x hm (cellW hj) ?_))))))
  · rw [show min (8 : Int).toNat IntKind.u64.bits = 8 from rfl, show Int.fdiv ((x : Nat) : Int) (2 ^ 8) = ((x / 256 : Nat) : Int) by rw [Int.fdiv_eq_ediv_of_nonneg _ (by decide)]; omega, i64_nat (by omega)]; exact h
theorem part_x {Q : (Int × Int) → AW → Prop} {e' t' : Nat} {r' : Bool} {z' : Nat} {js : List Value} (hi : In aw hb ⟨[.slice (some ⟨mb, 0, none⟩) n c, x2, x3], t, e, r, z⟩) (hm : In aw mb ⟨ws.map W ++ js, t', e', r', z'⟩) (hn : n < 2 ^ 60) (hl : n = ws.length) {x y : Nat} (hj : ws[j]? = some x) (hx : x < 2 ^ 64)
    (hk : x % 256 ≠ 3) (hil : i < x / 256) (hy : ws[j + 1 + i]? = some y) (h : Q ((y : Int), 0) aw) : CallP prog 80 [.pointer (some ⟨hb, 0, none⟩), .int .u64 ((2 * j : Nat) : Int), .int .i64 (i : Int)] aw sh80 Q E := by
  have hlt : j < ws.length := (List.getElem?_eq_some_iff.1 hj).1
  have hlt2 : j + 1 + i < ws.length := (List.getElem?_eq_some_iff.1 hy).1
  refine F80_ok _ _ _ aw ?_
  unfold S80_0
  refine cnd_0x (by simp) (len_x hi hm hn hl hj hx (cnd_0x (by simp; omega) (kind_x hi hm hn hl hj (cnd_0x (by simp; omega) (nck_x (fldA_x (ldV_x hi (by constructor) (at_x hi (by omega) hn (again_x hi (by constructor) ?_)))))))))
  rw [show (j : Int) + 1 = ((j + 1 : Nat) : Int) by omega, i64_nat (by omega), show ((j + 1 : Nat) : Int) + (i : Int) = ((j + 1 + i : Nat) : Int) by omega, i64_nat (by omega)]
  exact ixS_x (by omega) (by omega) (ldI_x hm (cellW hy) h)
theorem used_x {Q : Int → AW → Prop} {q : Option Addr} (hi : In aw hb ⟨[.slice q n c, x2, x3], t, e, r, z⟩) (h : Q (n : Int) aw) : CallP prog 23 [.pointer (some ⟨hb, 0, none⟩)] aw sh23 Q E := by
  refine F23_ok _ aw ?_
  unfold S23_0
  exact nilB_x rfl rfl (cnd_0x rfl (nck_x (fldA_x (ldV_x hi (by constructor) (slen_x h)))))
theorem quota_x {Q : Int → AW → Prop} {x1 : Value} {qu : Int} (hi : In aw hb ⟨[x1, .int .i64 qu, x3], t, e, r, z⟩) (h : Q qu aw) : CallP prog 79 [.pointer (some ⟨hb, 0, none⟩)] aw sh79 Q E := by
  refine F79_ok _ aw ?_
  unfold S79_0
  exact nilB_x rfl rfl (cnd_0x rfl (nck_x (fldA_x (ldI_x hi (by repeat constructor) h))))
theorem hroom_x {Q : Bool → AW → Prop} {q : Option Addr} {qu k : Nat} {rs : Value} (hi : In aw hb ⟨[.slice q n c, .int .i64 (qu : Int), x3], t, e, r, z⟩) (hq : qu < 2 ^ 60) (hk : n + k ≤ qu) (h : Q true aw) : CallP prog 52 [.pointer (some ⟨hb, 0, none⟩), .int .i64 (k : Int), rs] aw sh52 Q E := by
  refine F52_ok _ _ _ aw ?_
  unfold S52_0
  have e1 : IntKind.i64.wrap ((qu : Int) - (n : Int)) = ((qu - n : Nat) : Int) := by rw [show (qu : Int) - n = ((qu - n : Nat) : Int) by omega, i64_nat (by omega)]
  refine nck_x (fldA_x (ldI_x hi (by repeat constructor) (nck_x (fldA_x (ldV_x hi (by constructor) (slen_x (cnd_0x ?_ ?_)))))))
  · rw [e1]; simp; omega
  · unfold S52_1
    refine nck_x (fldA_x (ldI_x hi (by repeat constructor) (nck_x (fldA_x (ldV_x hi (by constructor) (slen_x ?_))))))
    rw [e1, decide_eq_true (by omega)]; exact h
theorem need_x {Q : Int → AW → Prop} {kind k : Nat} (hk : kind < 256) (hn : k < 2 ^ 60) (h : Q (((if kind = 3 then 1 + (k + 7) / 8 else 1 + k : Nat)) : Int) aw) : CallP prog 53 [.int .u8 (kind : Int), .int .i64 (k : Int)] aw sh53 Q E := by
  refine F53_ok _ _ aw ?_
  unfold S53_0
  by_cases h3 : kind = 3
  · refine cnd_1x (by simp; omega) ?_
    rw [show (k : Int) + 7 = ((k + 7 : Nat) : Int) by omega, i64_nat (by omega), show Int.tdiv ((k + 7 : Nat) : Int) 8 = (((k + 7) / 8 : Nat) : Int) by rw [Int.tdiv_eq_ediv_of_nonneg (by omega)]; omega, i64_nat (by omega),
      show 1 + (((k + 7) / 8 : Nat) : Int) = ((1 + (k + 7) / 8 : Nat) : Int) by omega, i64_nat (by omega)]
    rw [if_pos h3] at h; exact h
  · refine cnd_0x (by simp; omega) ?_
    rw [show 1 + (k : Int) = ((1 + k : Nat) : Int) by omega, i64_nat (by omega)]
    rw [if_neg h3] at h; exact h
theorem head_x {Q : Int → AW → Prop} {kind k : Nat} (hk : kind < 256) (hn : k < 2 ^ 50) (h : Q (Hd kind k) aw) : CallP prog 54 [.int .u8 (kind : Int), .int .i64 (k : Int)] aw sh54 Q E := by
  refine F54_ok _ _ aw ?_
  unfold S54_0
  rw [head_eq hk (by omega)]; exact h
end
end Go.Proofs.Tryd
