/- slices.Sorted of few numbers: what comes out is of what went in. -/
import Derived.Test.YtfdfakapkhflcaaVc2
import Derived.Test.YtfdfakapkhflcaaBq7
set_option linter.unusedSimpArgs false
set_option linter.unusedVariables false
set_option linter.unusedSectionVars false
set_option maxRecDepth 100000
namespace Go.Proofs.Try
open Go Go.Am Go.RowKit Go.Oc
theorem cellO : ∀ {cs : List Value} {i : Nat} {v : Value}, cs[i]? = some v → Cell cs i v
  | c :: cs, 0, v, h => by simp at h; subst h; exact .here
  | c :: cs, i + 1, v, h => .there (cellO (by simpa using h))
theorem put_set : ∀ {l : List Value} {i : Nat} {v : Value}, i < l.length → Put l i [v] (l.set i v)
  | c :: l, 0, v, _ => .cons .nil
  | c :: l, i + 1, v, h => .skip (put_set (by simpa using h))
abbrev U (n : Int) : Value := .int .u64 n
theorem set_U (ys : List Int) (i : Nat) (x : Int) : (ys.map U).set i (U x) = (ys.set i x).map U := by rw [List.map_set]
variable [SymE]
set_option maxHeartbeats 1000000
section
variable {aw0 aw : AW} {own : List Nat} {ro l : List (Nat × Blk)} {db n : Nat} {ys : List Int} {E : List PanicEntry → AW → Prop} {P : Int → Prop}
abbrev YB (ys : List Int) : Blk := ⟨ys.map U, 24, 1, true, 0⟩
theorem less_x {Q : Bool → AW → Prop} {x y : Int} (hQ : Q (decide (x < y)) aw) : CallP prog 86 [.int .u64 x, .int .u64 y] aw sh86 Q E := by
  refine F86_ok _ _ aw ?_
  unfold S86_0
  refine F96_ok _ aw ?_
  unfold S96_0
  exact cnd_0x (by simp) hQ
theorem ins_in {Q : Unit → AW → Prop} {nx : Value → Int → Int → Int → AW → Prop} {i : Nat} (hi : i < n) (hn : n < 1000) : ∀ (j : Nat) (ys : List Int) (aw : AW), j < n → ys.length = n → (∀ y ∈ ys, P y) → Hp aw0 own ro aw ((db, YB ys) :: l) →
    (∀ ys' aw', ys'.length = n → (∀ y ∈ ys', P y) → Hp aw0 own ro aw' ((db, YB ys') :: l) → nx (.slice (some ⟨db, 0, none⟩) n UNK) 0 (n : Int) ((i + 1 : Nat) : Int) aw') → S80_2 Q E nx (j + 1) (.slice (some ⟨db, 0, none⟩) n UNK) 0 (n : Int) (i : Int) (j : Int) aw
  | 0, ys, aw, hj, hy, hP, M, K => by
    show S80_2s Q E nx _ _ _ _ _ _ _
    unfold S80_2s
    refine cnd_0x rfl ?_
    unfold S80_3
    refine cnd_0x rfl ?_
    rw [show (i : Int) + 1 = ((i + 1 : Nat) : Int) by omega, i64_in (by omega) (by omega)]
    exact K ys aw hy hP M
  | j + 1, ys, aw, hj, hy, hP, M, K => by
    show S80_2s Q E nx (S80_2 Q E nx (j + 1)) _ _ _ _ _ _
    unfold S80_2s
    have e1 : IntKind.i64.wrap (((j + 1 : Nat) : Int) - 1) = ((j : Nat) : Int) := by rw [show ((j + 1 : Nat) : Int) - 1 = ((j : Nat) : Int) by omega, i64_in (by omega) (by omega)]
    have c1 : ∀ (ys : List Int) (k : Nat) (h : k < ys.length), (ys.map U)[0 + ((k : Nat) : Int).toNat * 1]? = some (U ys[k]) := fun ys k h => by
      rw [show 0 + ((k : Nat) : Int).toNat * 1 = k by omega, List.getElem?_map, List.getElem?_eq_getElem h]; rfl
    refine cnd_1x (decide_eq_true (by omega)) ?_
    rw [e1]
    refine ixS_x (by omega) (by omega) (ldI_x (M.im .here) (cellO (c1 ys (j + 1) (by omega))) (ixS_x (by omega) (by omega) (ldI_x (M.im .here) (cellO (c1 ys j (by omega))) ?_)))
    refine less_x ?_
    unfold S80_3
    rw [e1]
    by_cases hlt : ys[j + 1] < ys[j]
    · refine cnd_1x (decide_eq_true hlt) ?_
      refine ixS_x (by omega) (by omega) (ldI_x (M.im .here) (cellO (c1 ys j (by omega))) (ixS_x (by omega) (by omega) (ldI_x (M.im .here) (cellO (c1 ys (j + 1) (by omega))) ?_)))
      refine ixS_x (by omega) (by omega) ?_
      rw [show 0 + ((j + 1 : Nat) : Int).toNat * 1 = j + 1 by omega]
      refine st_x M .here (put_set (by simp; omega)) rfl rfl rfl fun aw1 M1 => ?_
      rw [set_U] at M1
      refine ixS_x (by omega) (by omega) ?_
      rw [show 0 + ((j : Nat) : Int).toNat * 1 = j by omega]
      refine st_x M1 .here (put_set (by simp; omega)) rfl rfl rfl fun aw2 M2 => ?_
      rw [set_U] at M2
      refine ins_in hi hn j ((ys.set (j + 1) ys[j]).set j ys[j + 1]) aw2 (by omega) (by simp [hy]) (fun y hm => ?_) M2 K
      rcases List.mem_or_eq_of_mem_set hm with hm | rfl
      · rcases List.mem_or_eq_of_mem_set hm with hm | rfl
        · exact hP y hm
        · exact hP _ (List.getElem_mem _)
      · exact hP _ (List.getElem_mem _)
    · refine cnd_0x (decide_eq_false hlt) ?_
      rw [show (i : Int) + 1 = ((i + 1 : Nat) : Int) by omega, i64_in (by omega) (by omega)]
      exact K ys aw hy hP M
theorem ins_out {Q : Unit → AW → Prop} (hn : n < 1000) (hQ : ∀ ys' aw', ys'.length = n → (∀ y ∈ ys', P y) → Hp aw0 own ro aw' ((db, YB ys') :: l) → Q () aw') : ∀ (k i : Nat) (ys : List Int) (aw : AW), n ≤ i + k → ys.length = n → (∀ y ∈ ys, P y) → Hp aw0 own ro aw ((db, YB ys) :: l) → S80_1 Q E (1 + k) (.slice (some ⟨db, 0, none⟩) n UNK) 0 (n : Int) (i : Int) aw
  | 0, i, ys, aw, h, hy, hP, M => by
    show S80_1s Q E _ _ _ _ _ _
    unfold S80_1s
    exact cnd_0x (decide_eq_false (by omega)) (hQ ys aw hy hP M)
  | k + 1, i, ys, aw, h, hy, hP, M => by
    show S80_1s Q E (S80_1 Q E (1 + k)) _ _ _ _ _
    unfold S80_1s
    by_cases hi : i < n
    · refine cnd_1x (decide_eq_true (by omega)) ⟨i + 1, ?_⟩
      exact ins_in (P := P) hi hn i ys aw hi hy hP M fun ys' aw' h1 h2 h3 => ins_out hn hQ k (i + 1) ys' aw' (by omega) h1 h2 h3
    · exact cnd_0x (decide_eq_false (by omega)) (hQ ys aw hy hP M)
theorem sort_x {Q : Unit → AW → Prop} (hn : n ≤ 12) (hy : ys.length = n) (hP : ∀ y ∈ ys, P y) (M : Hp aw0 own ro aw ((db, YB ys) :: l)) (hQ : ∀ ys' aw', ys'.length = n → (∀ y ∈ ys', P y) → Hp aw0 own ro aw' ((db, YB ys') :: l) → Q () aw') : CallP prog 75 [.slice (some ⟨db, 0, none⟩) n UNK] aw sh75 Q E := by
  refine F75_ok _ aw ?_
  unfold S75_0
  refine slen_x ?_
  have e1 : IntKind.u64.wrap (n : Int) = (n : Int) := by rw [wrap_u64]; omega
  rw [e1]
  refine F79_ok _ aw ?_
  unfold S79_0
  refine F90_ok _ aw ?_
  unfold S90_0
  refine cnd_0x (decide_eq_false (by omega)) ?_
  unfold S90_1
  refine cnd_0x (decide_eq_false (by omega)) ?_
  unfold S90_2
  refine cnd_0x (decide_eq_false (by omega)) ?_
  unfold S90_3
  have e2 : IntKind.u8.wrap (n : Int) = (n : Int) := by
    have : IntKind.u8.wrap (n : Int) = (n : Int) % 256 := rfl
    rw [this]; omega
  rw [e2]
  refine ⟨_, by omega, by show (n : Int) < ((256 : Nat) : Int); omega, rfl, ?_⟩
  refine F78_ok _ _ _ _ aw ?_
  unfold S78_0
  refine ⟨0 + 1, ?_⟩
  show S78_1s Q E _ _ _ _ _ _ _ _
  unfold S78_1s
  rw [show (n : Int) - 0 = (n : Int) by omega, i64_in (n := (n : Int)) (by omega) (by omega)]
  refine cnd_1x (decide_eq_true (by omega)) ?_
  refine F80_ok _ _ _ aw ?_
  unfold S80_0
  rw [show IntKind.i64.wrap (0 + 1) = ((1 : Nat) : Int) from rfl]
  exact ⟨1 + n, ins_out (P := P) (by omega) hQ n 1 ys aw (by omega) hy hP M⟩
theorem sorted_x {Q : Value → AW → Prop} {b0 c bx : Nat} {BX : Blk} {B : Blk} (h0 : 0 < ys.length) (hn : ys.length ≤ 12) (hP : ∀ y ∈ ys, P y) (hB : B.cells = ys.map U) (hb : At l b0 B) (hbx : At l bx BX) (hx0 : BX.cells[0]? = some (.slice (some ⟨b0, 0, none⟩) ys.length c)) (M : Hp aw0 own ro aw l)
    (hQ : ∀ db ys' aw', ys'.length = ys.length → (∀ y ∈ ys', P y) → Hp aw0 own ro aw' ((db, YB ys') :: l) → Q (.slice (some ⟨db, 0, none⟩) ys.length UNK) aw') : CallP prog 72 [.func (.func 76) #[] #[.pointer (some ⟨bx, 0, none⟩)]] aw sh72 Q E := by
  letI : Go.Ri.FT := Go.Ri.ftW
  haveI : Go.Ri.FTok := Go.Ri.ftWok
  refine F72_ok _ aw ?_
  unfold S72_0
  refine F74_ok _ aw ?_
  unfold S74_0
  refine appendSeq_x (vs := ys) (by omega) (fun j n h => by rw [hB, show 0 + j * 1 = j by omega, List.getElem?_map, h]; rfl) (.inr hb) hbx hx0 M fun v L aw1 hv M1 => ?_
  generalize hk : ys.length = k at hv
  generalize hos : ys.map (fun x => Value.int IntKind.u64 x) = os at hv
  cases hv with
  | nil => omega
  | some hle =>
    rename_i db
    subst hos
    have M2 : Hp aw0 own ro aw1 ((db, YB ys) :: l) := M1
    rw [← hk]
    exact sort_x (P := P) hn rfl hP M2 fun ys' aw' h1 h2 M3 => hQ db ys' aw' h1 h2 M3
end
end Go.Proofs.Try
