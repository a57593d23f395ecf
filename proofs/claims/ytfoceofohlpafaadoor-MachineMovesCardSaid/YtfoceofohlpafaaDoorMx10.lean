/- machine: an instruction is fetched. -/
import Derived.Test.YtfoceofohlpafaaDoorMx9
set_option linter.unusedSectionVars false
set_option linter.unusedSimpArgs false
set_option linter.unusedVariables false
namespace Go.Proofs.Tryd
open Go Go.Am Go.RowKit
variable [SymE]
set_option maxHeartbeats 1000000
def Here (ro l : List (Nat × Blk)) (b : Nat) (B : Blk) : Prop := At ro b B ∨ At l b B
theorem Here.cons {ro l : List (Nat × Blk)} {b : Nat} {B : Blk} {x : Nat × Blk} (h : Here ro l b B) : Here ro (x :: l) b B := h.elim .inl fun h => .inr (.there h)
theorem hp_h {aw0 aw : AW} {own : List Nat} {ro l : List (Nat × Blk)} {b : Nat} {B : Blk} (M : Hp aw0 own ro aw l) (h : Here ro l b B) : In aw b B := h.elim M.ir M.im
theorem put_app {r r' vs : List Value} {i : Nat} (h : Put r i vs r') : ∀ (x : List Value), Put (x ++ r) (x.length + i) vs (x ++ r')
  | [] => by simpa using h
  | c :: x => by
    have := Put.skip (c := c) (put_app h x)
    rw [show x.length + i + 1 = (c :: x).length + i by simp; omega] at this
    exact this
abbrev IB (op : Nat) (n a : Int) (s : ByteArray) : Blk := ⟨[.int .u8 (op : Int), .int .i64 n, .int .i64 a, .string s], 34, 0, true, 0⟩
abbrev FB (fs : List Value) (f pc base : Nat) (js : List Value) : Blk := ⟨fs ++ [.int .i64 (f : Int), .int .i64 (pc : Int), .int .i64 (base : Int)] ++ js, 85, 3, true, 0⟩
section
variable {aw0 aw : AW} {own : List Nat} {ro l : List (Nat × Blk)} {m bs bf bu_ cb co k f pc base nf cn cf cc op : Nat} {h gl sk tr ad bu mo : Value} {fuel space most : Int} {E : List PanicEntry → AW → Prop} {fs js : List Value} {FU CO : Blk} {n a : Int} {s : ByteArray}
theorem fetch {Q : Unit → AW → Prop} (M : Hp aw0 own ro aw ((m, MB h (.slice (some ⟨bu_, 0, none⟩) nf cf) gl sk (Sl bf (k + 1)) tr fuel space most ad bu mo) :: (bf, FB fs f pc base js) :: l)) (hk : fs.length = k * 3) (hk' : k < 2 ^ 40)
    (hf : f < nf) (hF : Here ro l bu_ FU) (hFc : FU.cells[f * 2 + 1]? = some (.slice (some ⟨cb, co, none⟩) cn cc)) (hpc : pc < cn) (hpc' : pc < 2 ^ 40) (hC : Here ro l cb CO)
    (h0 : CO.cells[co + pc * 4]? = some (.int .u8 (op : Int))) (h1 : CO.cells[co + pc * 4 + 1]? = some (.int .i64 n)) (h2 : CO.cells[co + pc * 4 + 2]? = some (.int .i64 a)) (h3 : CO.cells[co + pc * 4 + 3]? = some (.string s))
    (hQ : ∀ ib aw', Hp aw0 own ro aw' ((ib, IB op n a s) :: (m, MB h (.slice (some ⟨bu_, 0, none⟩) nf cf) gl sk (Sl bf (k + 1)) tr fuel space most ad bu mo) :: (bf, FB fs f (pc + 1) base js) :: l) →
      S58_1 Q E (Pt m) (.pointer (some ⟨bf, k * 3, none⟩)) (Pt ib) (op : Int) aw') : CallP prog 58 [Pt m] aw sh58 Q E := by
  refine F58_ok _ aw ?_
  unfold S58_0
  have e1 : IntKind.i64.wrap (((k + 1 : Nat) : Int) - 1) = ((k : Nat) : Int) := by rw [show ((k + 1 : Nat) : Int) - 1 = ((k : Nat) : Int) by omega, i64_nat (by omega)]
  have c0 : ∀ pc, Cell (FB fs f pc base js).cells (k * 3) (.int .i64 (f : Int)) := fun pc => Cell.of (by
    show (fs ++ [.int .i64 (f : Int), .int .i64 (pc : Int), .int .i64 (base : Int)] ++ js)[k * 3]? = _
    rw [List.append_assoc, List.getElem?_append_right (by omega), hk, Nat.sub_self]; rfl)
  have c1 : ∀ pc, Cell (FB fs f pc base js).cells (k * 3 + 1) (.int .i64 (pc : Int)) := fun pc => Cell.of (by
    show (fs ++ [.int .i64 (f : Int), .int .i64 (pc : Int), .int .i64 (base : Int)] ++ js)[k * 3 + 1]? = _
    rw [List.append_assoc, List.getElem?_append_right (by omega), hk, show k * 3 + 1 - k * 3 = 1 by omega]; rfl)
  refine nck_x (fldA_x (ldV_x (M.im .here) (by repeat constructor) (nck_x (fldA_x (ldV_x (M.im .here) (by repeat constructor) (slen_x ?_))))))
  rw [e1]
  refine ixS_x (by omega) (by omega) ?_
  rw [show 0 + ((k : Nat) : Int).toNat * 3 = k * 3 by omega]
  have hiF := hp_h M hF.cons.cons
  have hiC := hp_h M hC.cons.cons
  refine nck_x (fldA_x (ldV_x (M.im .here) (by repeat constructor) (nck_x (fldA_x (ldI_x (M.im (.there .here)) (c0 pc) ?_)))))
  refine ixS_x (by omega) (by omega) (fldA_x (ldV_x hiF (Cell.of (by rw [show 0 + ((f : Nat) : Int).toNat * 2 + 1 = f * 2 + 1 by omega]; exact hFc)) ?_))
  refine nck_x (fldA_x (ldI_x (M.im (.there .here)) (c1 pc) ?_))
  refine ixS_x (by omega) (by omega) ?_
  rw [show ((pc : Nat) : Int).toNat = pc by omega]
  refine ptr_x (gI_x hiC (Cell.of h0) (gI_x hiC (Cell.of h1) (gI_x hiC (Cell.of h2) (gS_x hiC (Cell.of h3) ?_))))
  refine alc_x M fun ib aw1 M1 => ?_
  have hiF1 := hp_h M1 hF.cons.cons.cons
  have hiC1 := hp_h M1 hC.cons.cons.cons
  have m1 := M1.im (.there .here)
  have f1 := M1.im (.there (.there .here))
  refine again_x m1 (by repeat constructor) (again_x f1 (c0 pc) (again_x hiF1 (Cell.of (by rw [show 0 + ((f : Nat) : Int).toNat * 2 + 1 = f * 2 + 1 by omega]; exact hFc)) (again_x f1 (c1 pc)
    (get_x hiC1 (Cell.of h0) (get_x hiC1 (Cell.of h1) (get_x hiC1 (Cell.of h2) (get_x hiC1 (Cell.of h3) ?_)))))))
  refine st_x M1 (by repeat constructor) (by repeat constructor) rfl rfl rfl fun aw2 M2 => ?_
  refine nck_x (fldA_x (ldI_x (M2.im (.there (.there .here))) (c1 pc) (nck_x (fldA_x ?_))))
  rw [show (pc : Int) + 1 = ((pc + 1 : Nat) : Int) by omega, i64_nat (by omega)]
  have hp : Put (FB fs f pc base js).cells (k * 3 + 1) [.int .i64 ((pc + 1 : Nat) : Int)] (FB fs f (pc + 1) base js).cells := by
    have := put_app (Put.skip (c := .int .i64 (f : Int)) (Put.cons (c := .int .i64 (pc : Int)) (v := .int .i64 ((pc + 1 : Nat) : Int)) (Put.nil (r := [.int .i64 (base : Int)] ++ js)))) fs
    rw [hk, Nat.zero_add] at this
    simpa only [FB, List.append_assoc, List.cons_append, List.nil_append] using this
  refine st_x M2 (by repeat constructor) hp rfl rfl rfl fun aw3 M3 => ?_
  refine fldA_x (ldI_x (M3.im .here) (by constructor) ?_)
  exact hQ ib aw3 M3
end
end Go.Proofs.Tryd
