/- MachineFuel: a function that calls itself. -/
import Derived.Test.YtfoceofohlpafaaDoorMz5
set_option linter.unusedVariables false
set_option linter.unusedSimpArgs false
set_option linter.unusedSectionVars false
namespace Go.Proofs.Tryd
open Go Go.Am Go.RowKit
variable [SymE]
set_option maxHeartbeats 1000000
abbrev IC (op : Nat) (n a : Int) (s : ByteArray) : List Value := [.int .u8 (op : Int), .int .i64 n, .int .i64 a, .string s]
structure CodeAt (ro l : List (Nat × Blk)) (fu : Value) (f cn : Nat) (cells : List Value) : Prop where
  ex : ∃ fb nf cf cb cc FU t e rw fz, fu = .slice (some ⟨fb, 0, none⟩) nf cf ∧ f < nf ∧ Here ro l fb FU ∧ FU.cells[f * 2 + 1]? = some (.slice (some ⟨cb, 0, none⟩) cn cc) ∧ Here ro l cb ⟨cells, t, e, rw, fz⟩
theorem CodeAt.ins {ro l : List (Nat × Blk)} {fu : Value} {f cn pc op : Nat} {cells : List Value} {n a : Int} {s : ByteArray} (h : CodeAt ro l fu f cn cells) (hpc : pc < cn) (hcn : cn < 2 ^ 40) (hc : (cells.drop (pc * 4)).take 4 = IC op n a s) : InsAt ro l fu f pc op n a s := by
  obtain ⟨fb, nf, cf, cb, cc, FU, t, e, rw_, fz, h1, h2, h3, h4, h5⟩ := h.ex
  have g : ∀ i v, (IC op n a s)[i]? = some v → i < 4 → cells[0 + pc * 4 + i]? = some v := fun i v hi h4 => by
    rw [← hc, List.getElem?_take, if_pos h4, List.getElem?_drop] at hi
    rw [Nat.zero_add]; exact hi
  exact ⟨fb, nf, cf, cb, 0, cn, cc, FU, ⟨cells, t, e, rw_, fz⟩, h1, h2, h3, h4, hpc, by omega, h5, g 0 _ rfl (by decide), g 1 _ rfl (by decide), g 2 _ rfl (by decide), g 3 _ rfl (by decide)⟩
abbrev bodyC : List Value := [.int .u8 2, .int .i64 0, .int .i64 0, .string (⟨#[]⟩ : ByteArray), .int .u8 13, .int .i64 8, .int .i64 0, .string (⟨#[]⟩ : ByteArray), .int .u8 4, .int .i64 0, .int .i64 0, .string (⟨#[]⟩ : ByteArray), .int .u8 2, .int .i64 0, .int .i64 0, .string (⟨#[]⟩ : ByteArray), .int .u8 0, .int .i64 1, .int .i64 0, .string (⟨#[]⟩ : ByteArray), .int .u8 20, .int .i64 1, .int .i64 0, .string (⟨#[]⟩ : ByteArray), .int .u8 7, .int .i64 0, .int .i64 0, .string (⟨#[]⟩ : ByteArray), .int .u8 8, .int .i64 0, .int .i64 0, .string (⟨#[]⟩ : ByteArray), .int .u8 0, .int .i64 7, .int .i64 0, .string (⟨#[]⟩ : ByteArray), .int .u8 8, .int .i64 0, .int .i64 0, .string (⟨#[]⟩ : ByteArray)]
abbrev mainC (k : Value) : List Value := [.int .u8 6, .int .i64 0, .int .i64 0, .string (⟨#[]⟩ : ByteArray), .int .u8 0, k, .int .i64 0, .string (⟨#[]⟩ : ByteArray), .int .u8 7, .int .i64 0, .int .i64 0, .string (⟨#[]⟩ : ByteArray), .int .u8 8, .int .i64 0, .int .i64 0, .string (⟨#[]⟩ : ByteArray)]
theorem rk_sub {r : Nat} (h : r < 2 ^ 40) : rk 1 (WN ((r + 1 : Nat) : Int)) (WN 1) = (r : Int) := by
  unfold rk
  rw [if_neg (by decide), if_pos rfl, Nw_WN (by omega) (by omega), Nw_WN (by decide) (by decide), show (((r + 1 : Nat) : Int) - 1) = (r : Int) by omega]
  exact i64_nat (by omega)
section
variable {aw0 : AW} {own : List Nat} {ro l : List (Nat × Blk)} {X : MC} {b1 b2 b3 mb nf cf bu_ qu : Nat} {E : List PanicEntry → AW → Prop} {Q : (Bool × Int × Int × ByteArray × ByteArray × Value × Int) → AW → Prop} {ws : List Nat} {mj : List Value} {ct : Int}
theorem body_x (hC : CodeAt ro l X.fu 0 10 bodyC) (hS : At l b1 (SB X.m)) (hfu : X.fu = .slice (some ⟨bu_, 0, none⟩) nf cf) (hnf : 0 < nf) (hH : At l X.hb (HB (Sl mb ws.length) (qu : Int) ct)) (hM : At l mb (WB ws mj)) (hn : ws.length < 2 ^ 60)
    (hj : ws[0]? = some (256 + 5)) (hy : ws[1]? = some (WN 0)) :
    ∀ (r : Nat) (P : List Nat) (F : List Fr) (fuel : Nat) (aw : AW) (k : Nat), P.length + 2 * r < 2 ^ 30 → F.length + r < 2 ^ 30 → fuel < 2 ^ 40 → MM aw0 own ro X (P ++ [2 * 0] ++ [WN (r : Int)]) (F ++ [(0, 0, P.length + 1)]) (fuel : Int) l aw →
      (fuel < r → ∀ st fs aw', MM aw0 own ro X st fs 0 l aw' → DK35 Q E (Pt b1) (Pt b2) (Pt b3) (.panic (over 10)) aw') → (r ≤ fuel → ∀ aw', MM aw0 own ro X (P ++ [WN 7]) F ((fuel - r : Nat) : Int) l aw' → S35_1 Q E k (Pt b1) (Pt b2) (Pt b3) aw') → S35_1 Q E (k + 8 * r + 4) (Pt b1) (Pt b2) (Pt b3) aw
  | 0, P, F, fuel, aw, k, h1, h2, h3, H, hD, K => by
    have hl : (P ++ [2 * 0] ++ [WN ((0 : Nat) : Int)]).length = P.length + 2 := by simp
    refine mm_local (i := 0) (w := WN ((0 : Nat) : Int)) H (hC.ins (by decide) (by decide) rfl) hS (by omega) (by omega) ?_ fun aw1 H1 => ?_
    · rw [List.getElem?_append_right (by simp)]; simp
    refine mm_false0 (i := 8) H1 (hC.ins (by decide) (by decide) rfl) hS (by omega) (by omega) (Nw_WN (by decide) (by decide)) fun aw2 H2 => ?_
    refine mm_int H2 (hC.ins (by decide) (by decide) rfl) hS (by omega) (by omega) fun aw3 H3 => ?_
    refine mm_ret H3 (hC.ins (by decide) (by decide) rfl) hS (by omega) (by omega) (by omega) (by omega) fun aw4 H4 => K (Nat.zero_le _) aw4 ?_
    have e : (P ++ [2 * 0] ++ [WN ((0 : Nat) : Int)]).take (P.length + 1 - 1) = P := by
      rw [List.append_assoc, List.take_append_of_le_length (by simp)]; exact List.take_of_length_le (by simp)
    rw [e] at H4
    exact H4
  | r + 1, P, F, fuel, aw, k, h1, h2, h3, H, hD, K => by
    have hl : (P ++ [2 * 0] ++ [WN ((r + 1 : Nat) : Int)]).length = P.length + 2 := by simp
    have hbase : (P ++ [2 * 0] ++ [WN ((r + 1 : Nat) : Int)])[P.length + 1 + 0]? = some (WN ((r + 1 : Nat) : Int)) := by
      rw [List.getElem?_append_right (by simp)]; simp
    have hself : (P ++ [2 * 0] ++ [WN ((r + 1 : Nat) : Int)])[P.length + 1 - 1]? = some (2 * 0) := by
      rw [List.getElem?_append_left (by simp), List.getElem?_append_right (by simp)]; simp
    rw [show k + 8 * (r + 1) + 4 = ((k + 1) + 8 * r + 4) + 7 by omega]
    refine mm_local (i := 0) H (hC.ins (by decide) (by decide) rfl) hS (by omega) (by omega) hbase fun aw1 H1 => ?_
    refine mm_false1 (i := 8) H1 (hC.ins (by decide) (by decide) rfl) hS (by omega) (by omega) (by rw [Nw_WN (by omega) (by omega)]; omega) fun aw2 H2 => ?_
    refine mm_self H2 (hC.ins (by decide) (by decide) rfl) hS (by omega) (by omega) (by omega) hself fun aw3 H3 => ?_
    refine mm_local (i := 0) (w := WN ((r + 1 : Nat) : Int)) H3 (hC.ins (by decide) (by decide) rfl) hS (by omega) (by simp; omega) ?_ fun aw4 H4 => ?_
    · rw [List.getElem?_append_left (by simp)]; exact hbase
    refine mm_int H4 (hC.ins (by decide) (by decide) rfl) hS (by omega) (by simp; omega) fun aw5 H5 => ?_
    refine mm_op H5 (hC.ins (by decide) (by decide) rfl) hS (by omega) (by simp; omega) (by decide) (by decide) (by omega) (by omega) (WN_odd _) (WN_lt _) (fun h => by omega) fun aw6 H6 => ?_
    rw [rk_sub (by omega)] at H6
    cases fuel with
    | zero => exact mm_call0 H6 (hC.ins (by decide) (by decide) rfl) hS (by omega) fun aw7 H7 => hD (Nat.succ_pos _) _ _ aw7 H7
    | succ fuel =>
      refine mm_call (j := 0) (fi := 0) H6 (hC.ins (by decide) (by decide) rfl) hS (by omega) (by omega) hfu (by omega) (by omega) hH hM hn hj (by decide) (by decide) (by decide) hy hnf (by decide) fun aw7 H7 => ?_
      rw [show (((fuel + 1 : Nat) : Int) - 1) = ((fuel : Nat) : Int) by omega] at H7
      refine body_x hC hS hfu hnf hH hM hn hj hy r (P ++ [2 * 0] ++ [WN ((r + 1 : Nat) : Int)]) (F ++ [(0, 7, P.length + 1)]) fuel aw7 (k + 1) (by simp; omega) (by simp; omega) (by omega) H7 (fun hr => hD (by omega)) fun hr aw8 H8 => ?_
      refine mm_ret H8 (hC.ins (by decide) (by decide) rfl) hS (by omega) (by omega) (by omega) (by omega) fun aw9 H9 => K (by omega) aw9 ?_
      have e : (P ++ [2 * 0] ++ [WN ((r + 1 : Nat) : Int)]).take (P.length + 1 - 1) = P := by
        rw [List.append_assoc, List.take_append_of_le_length (by simp)]; exact List.take_of_length_le (by simp)
      rw [e] at H9
      rw [show fuel + 1 - (r + 1) = fuel - r by omega]
      exact H9
end
end Go.Proofs.Tryd
