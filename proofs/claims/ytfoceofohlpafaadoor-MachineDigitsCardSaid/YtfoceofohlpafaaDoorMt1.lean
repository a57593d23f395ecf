/- bytes.Buffer: one byte more; what it holds. -/
import Derived.Test.YtfoceofohlpafaaDoorMz5
import Derived.Test.YtfoceofohlpafaaDoorL3
set_option linter.unusedVariables false
set_option linter.unusedSimpArgs false
set_option linter.unusedSectionVars false
namespace Go.Proofs.Tryd
open Go Go.Am Go.RowKit
variable [SymE]
set_option maxHeartbeats 1000000
abbrev BB (v : Value) : Blk := ⟨[v, .int .i64 0, .int .i8 0], 94, 0, true, 0⟩
inductive Buf (bb : Nat) : List UInt8 → List (Nat × Blk) → Prop
  | nil : Buf bb [] [(bb, BB nil3)]
  | some {kb c : Nat} {bs : List UInt8} {zs : List Value} (hc : bs.length + zs.length = c) (hlt : c < 2 ^ 63) (h0 : 0 < bs.length) : Buf bb bs [(bb, BB (.slice (some ⟨kb, 0, none⟩) bs.length c)), (kb, ⟨bytesV bs ++ zs, 5, 1, true, 0⟩)]
theorem put_pre {xs cs cs' zs : List Value} (h : cs.length = xs.length) : Put (xs ++ zs) 0 cs (cs ++ zs) := by
  induction xs generalizing cs with
  | nil =>
    obtain rfl : cs = [] := List.eq_nil_of_length_eq_zero (by simpa using h)
    exact .nil
  | cons x xs ih =>
    cases cs with
    | nil => simp at h
    | cons c cs => exact .cons (ih (by simpa using h))
theorem put_at {xs zs : List Value} {z c : Value} : Put (xs ++ z :: zs) xs.length [c] (xs ++ c :: zs) := by
  have := put_app (Put.cons (c := z) (v := c) (Put.nil (r := zs))) xs
  simpa using this
section
variable {aw0 aw : AW} {own : List Nat} {ro l L : List (Nat × Blk)} {bb kb c : Nat} {E : List PanicEntry → AW → Prop} {bs : List UInt8} {zs : List Value} {x : UInt8}
theorem cutC {size b n lo hi : Nat} {i : Nat} {a d : Int} {K : Value → Prop} (ha : a = (lo : Int)) (hd : d = (hi : Int)) (h1 : lo ≤ hi) (h2 : hi ≤ c) (hc : c < UNK) (hK : K (.slice (some ⟨b, i + lo * size, none⟩) (hi - lo) (c - lo))) : cutV aw size (.slice (some ⟨b, i, none⟩) n c) a d K := by
  subst ha; subst hd
  refine ⟨_, .some h1 (by rw [if_pos hc]; exact h2) (fun h => absurd hc (by omega)), ?_⟩
  unfold capOf
  rw [if_pos hc]; exact hK
theorem try_yes {Q : Int × Bool → AW → Prop} {n : Nat} (M : Hp aw0 own ro aw ((bb, BB (.slice (some ⟨kb, 0, none⟩) n c)) :: l)) (hn : n < c) (hc : c < 2 ^ 63) (hQ : ∀ aw', Hp aw0 own ro aw' ((bb, BB (.slice (some ⟨kb, 0, none⟩) (n + 1) c)) :: l) → Q ((n : Int), true) aw') :
    CallP prog 59 [Pt bb, .int .i64 1] aw sh59 Q E := by
  refine F59_ok _ _ aw ?_
  unfold S59_0
  have hu : c < UNK := by unfold UNK; omega
  refine nck_x (fldA_x (ldV_x (M.im .here) (by repeat constructor) (slen_x (nck_x (fldA_x (ldV_x (M.im .here) (by repeat constructor) (scap_x hu ?_)))))))
  rw [i64_in (n := (c : Int) - (n : Int)) (by omega) (by omega)]
  refine cnd_1x (decide_eq_true (by omega)) (nck_x (fldA_x (ldV_x (M.im .here) (by repeat constructor) ?_)))
  rw [show (n : Int) + 1 = ((n + 1 : Nat) : Int) by omega, i64_nat (by omega)]
  refine cutC (lo := 0) (hi := n + 1) rfl rfl (Nat.zero_le _) (by omega) hu ?_
  exact nck_x (fldA_x (st_x M .here (by repeat constructor) rfl rfl rfl fun aw1 M1 => hQ aw1 M1))
theorem try_no {Q : Int × Bool → AW → Prop} {n : Nat} {q : Option Addr} (M : Hp aw0 own ro aw ((bb, BB (.slice q n n)) :: l)) (hn : n < 2 ^ 62) (hQ : Q (0, false) aw) : CallP prog 59 [Pt bb, .int .i64 1] aw sh59 Q E := by
  refine F59_ok _ _ aw ?_
  unfold S59_0
  refine nck_x (fldA_x (ldV_x (M.im .here) (by repeat constructor) (slen_x (nck_x (fldA_x (ldV_x (M.im .here) (by repeat constructor) (scap_x (by unfold UNK; omega) ?_)))))))
  rw [i64_in (n := (n : Int) - (n : Int)) (by omega) (by omega)]
  exact cnd_0x (decide_eq_false (by omega)) hQ
theorem growSlice_x {Q : Value → AW → Prop} {n : Nat} (hn : n = bs.length) (h0 : 0 < n) (hn2 : n < 2 ^ 40) (M : Hp aw0 own ro aw ((kb, ⟨bytesV bs, 5, 1, true, 0⟩) :: l))
    (hQ : ∀ nb N zs' aw', bs.length + zs'.length = N → n < N → N < 2 ^ 63 → Hp aw0 own ro aw' ((nb, ⟨bytesV bs ++ zs', 5, 1, true, 0⟩) :: (kb, ⟨bytesV bs, 5, 1, true, 0⟩) :: l) → Q (.slice (some ⟨nb, 0, none⟩) n N) aw') :
    CallP prog 78 [.slice (some ⟨kb, 0, none⟩) n n, .int .i64 1] aw sh78 Q E := by
  subst hn
  refine F78_ok _ _ aw ?_
  unfold S78_0
  have hu : bs.length < UNK := by unfold UNK; omega
  refine slen_x (scap_x hu ?_)
  have main : S78_1 Q E (.slice (some ⟨kb, 0, none⟩) bs.length bs.length) (.slice none 0 0) (IntKind.i64.wrap (2 * ((bs.length : Nat) : Int))) aw → cnd (decide (IntKind.i64.wrap ((bs.length : Int) + 1) < IntKind.i64.wrap (2 * (bs.length : Int)))) (scap (.slice (some ⟨kb, 0, none⟩) bs.length bs.length) fun n47 => S78_1 Q E (.slice (some ⟨kb, 0, none⟩) bs.length bs.length) (.slice none 0 0) (IntKind.i64.wrap (2 * n47)) aw) (S78_1 Q E (.slice (some ⟨kb, 0, none⟩) bs.length bs.length) (.slice none 0 0) (IntKind.i64.wrap ((bs.length : Int) + 1)) aw) := by
    intro h
    by_cases h1 : bs.length = 1
    · refine cnd_0x ?_ ?_
      · rw [h1]; decide
      · rw [h1] at h ⊢; exact h
    · refine cnd_1x ?_ (scap_x hu h)
      rw [i64_in (n := (bs.length : Int) + 1) (by omega) (by omega), i64_in (n := 2 * (bs.length : Int)) (by omega) (by omega)]
      exact decide_eq_true (by omega)
  refine main ?_
  unfold S78_1
  rw [show 2 * ((bs.length : Nat) : Int) = ((2 * bs.length : Nat) : Int) by omega, i64_nat (by omega)]
  refine ⟨none, 0, 0, 2 * bs.length, [], rfl, rfl, by omega, .nil, by unfold UNK; omega, by omega, by omega, fun N h1 h2 => ?_⟩
  rw [Nat.zero_add] at h1 ⊢
  have M1 := M.alloc (cs := [] ++ (zeros [.int .u8 0] (2 * bs.length) ++ zeros [.int .u8 0] (N - 2 * bs.length))) 5 1
  generalize hZ : zeros [.int .u8 0] (2 * bs.length) ++ zeros [.int .u8 0] (N - 2 * bs.length) = Z at M1 ⊢
  have hZl : Z.length = N := by rw [← hZ]; simp [zeros_length]; omega
  rw [List.nil_append] at M1 ⊢
  have hs : Src (aw.alloc Z 5 1) 1 (.slice (some ⟨kb, 0, none⟩) bs.length bs.length) bs.length (bytesV bs) := src_x (M1.im (.there .here)) (by simp [bytesV]) (by rw [List.drop_zero, List.take_of_length_le (by simp [bytesV])])
  have e1 : min bs.length (2 * bs.length) = bs.length := by omega
  have hbl : (bytesV bs).length = bs.length := by simp [bytesV]
  have e2 : (bytesV bs).take (min bs.length (2 * bs.length) * 1) = bytesV bs := by rw [e1, Nat.mul_one]; exact List.take_of_length_le (by simp [bytesV])
  have hput : Put Z 0 (bytesV bs) (bytesV bs ++ Z.drop bs.length) := by
    have := put_pre (xs := Z.take bs.length) (cs := bytesV bs) (cs' := []) (zs := Z.drop bs.length) (by rw [hbl, List.length_take]; omega)
    rwa [List.take_append_drop] at this
  have M2 := M1.set (B := ⟨Z, 5, 1, true, 0⟩) hput .here
  refine ⟨_, _, _, _, _, _, _, _, rfl, hs, by rw [e2]; exact bytesV_one bs, ?_, rfl, rfl, ?_⟩
  · rw [e2]; exact ⟨_, M1.m .here, rfl, by rw [hbl]; show 0 + bs.length ≤ Z.length; omega, Nat.zero_le _⟩
  rw [e2, e1]
  refine cutC (lo := 0) (hi := bs.length) rfl rfl (Nat.zero_le _) (by omega) (by unfold UNK; omega) ?_
  unfold DK78 DefK
  refine F86_okD _ _ ?_
  unfold S86_0
  refine nilB_x rfl rfl (cnd_0x rfl ?_)
  show Q (.slice (some ⟨aw.next, 0 + 0 * 1, none⟩) (bs.length - 0) (N - 0)) _
  rw [Nat.zero_mul, Nat.sub_zero, Nat.sub_zero]
  exact hQ aw.next N (Z.drop bs.length) _ (by simp; omega) (by omega) h2 M2
end
end Go.Proofs.Tryd
