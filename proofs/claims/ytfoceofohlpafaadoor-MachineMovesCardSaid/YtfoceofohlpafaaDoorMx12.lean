/- machine: a function ends. -/
import Derived.Test.YtfoceofohlpafaaDoorMx11
set_option linter.unusedSectionVars false
set_option linter.unusedSimpArgs false
set_option linter.unusedVariables false
namespace Go.Proofs.Tryd
open Go Go.Am Go.RowKit
variable [SymE]
set_option maxHeartbeats 1000000
theorem cut_x {aw : AW} {b i n a d size : Nat} {B : Blk} {lo hi : Int} (hlo : lo = (a : Int)) (hhi : hi = (d : Int)) (h1 : a ≤ d) (h2 : d ≤ n) (hB : In aw b B) (he : B.esz = size) :
    Cut aw size (.slice (some ⟨b, i, none⟩) n UNK) lo hi (.slice (some ⟨b, i + a * size, none⟩) (d - a) UNK) := by
  subst hlo; subst hhi
  have := Cut.some (aw := aw) (size := size) (b := b) (i := i) (l := n) (c := UNK) (lo := a) (hi := d) h1 (by rw [if_neg (Nat.lt_irrefl _)]; exact h2) (fun _ => ⟨B, hB.1, he⟩)
  simpa [capOf] using this
section
variable {aw0 aw : AW} {own : List Nat} {ro l : List (Nat × Blk)} {m bs bf ib k f pc base w : Nat} {h fu gl tr ad bu mo : Value} {fuel space most : Int} {E : List PanicEntry → AW → Prop} {sj fs js : List Value} {n ia : Int} {s : ByteArray} {st : List Nat}
theorem ins_ret {Q : Unit → AW → Prop} (M : Hp aw0 own ro aw ((ib, IB 8 n ia s) :: (m, MB h fu gl (Sl bs (st.length + 1)) (Sl bf (k + 1)) tr fuel space most ad bu mo) :: (bf, FB fs f pc base js) :: (bs, WB (st ++ [w]) sj) :: l)) (hst : st.length < 2 ^ 39) (hk : fs.length = k * 3) (hk' : k < 2 ^ 40)
    (hb : 1 ≤ base) (hb' : base - 1 ≤ st.length)
    (hQ : ∀ bs' aw', Hp aw0 own ro aw' ((m, MB h fu gl (Sl bs' (st.take (base - 1) ++ [w]).length) (Sl bf k) tr fuel space most ad bu mo) :: (bf, FB fs f pc base js) :: (bs', WB (st.take (base - 1) ++ [w]) []) :: l) → Q () aw') :
    S58_1 Q E (Pt m) (.pointer (some ⟨bf, k * 3, none⟩)) (Pt ib) 8 aw := by
  have c2 : Cell (FB fs f pc base js).cells (k * 3 + 2) (.int .i64 (base : Int)) := Cell.of (by
    show (fs ++ [.int .i64 (f : Int), .int .i64 (pc : Int), .int .i64 (base : Int)] ++ js)[k * 3 + 2]? = _
    rw [List.append_assoc, List.getElem?_append_right (by omega), hk, show k * 3 + 2 - k * 3 = 2 by omega]; rfl)
  unfold S58_1
  iterate 8 (first | refine cnd_0x rfl ?_)
  refine cnd_1x rfl ?_
  have M1 := ((M.drop .here).front (.there (.there .here))).front (.there .here)
  refine pop_x M1 (by omega) fun aw1 M2 => ?_
  refine nck_x (fldA_x (ldV_x (M2.im .here) (by repeat constructor) (nck_x (fldA_x (ldI_x (M2.im (.there (.there .here))) c2 ?_)))))
  have e1 : IntKind.i64.wrap ((base : Int) - 1) = ((base - 1 : Nat) : Int) := by rw [show (base : Int) - 1 = ((base - 1 : Nat) : Int) by omega]; exact i64_in (by omega) (by omega)
  rw [e1]
  refine cutV_x (a := 0) rfl rfl (Nat.zero_le _) hb' (M2.im (.there .here)) rfl ?_
  refine alcS_x M2 fun b aw2 M3 => ?_
  refine again_x (M3.im (.there .here)) (by repeat constructor) (again_x (M3.im (.there (.there (.there .here)))) c2 ⟨cut_x (a := 0) rfl rfl (Nat.zero_le _) hb' (M3.im (.there (.there .here))) rfl, ?_⟩)
  refine app_mv M3 (by repeat constructor) (by simp; omega) (src_s (M3.im .here) rfl (.take .nil)) rfl (by omega) fun b2 aw3 M4 => ?_
  refine nck_x (fldA_x ?_)
  refine st_x M4 (by repeat constructor) (by repeat constructor) rfl rfl rfl fun aw4 M5 => ?_
  have M6 := (M5.drop (.there .here)).front (.there .here)
  refine nck_x (fldA_x (ldV_x (M6.im .here) (by repeat constructor) (nck_x (fldA_x (ldV_x (M6.im .here) (by repeat constructor) (slen_x ?_))))))
  have e2 : IntKind.i64.wrap (((k + 1 : Nat) : Int) - 1) = ((k : Nat) : Int) := by rw [show ((k + 1 : Nat) : Int) - 1 = ((k : Nat) : Int) by omega, i64_nat (by omega)]
  rw [e2]
  refine cutV_x (a := 0) rfl rfl (Nat.zero_le _) (by omega) (M6.im (.there (.there .here))) rfl ?_
  refine nck_x (fldA_x ?_)
  refine st_x M6 (by repeat constructor) (by repeat constructor) rfl rfl rfl fun aw5 M7 => ?_
  have e3 : (st.map W ++ W w :: sj).take ((base - 1 - 0) * 1) = (st.take (base - 1)).map W := by
    rw [List.take_append_of_le_length (by simp; omega), List.map_take, Nat.sub_zero, Nat.mul_one]
  have e4 : WB (st.take (base - 1) ++ [w]) [] = ⟨(st.take (base - 1)).map W ++ [W w], 26, 1, true, 0⟩ := by rw [WB_snoc]
  have e5 : (st.take (base - 1) ++ [w]).length = base - 1 - 0 + 1 := by simp; omega
  refine hQ b2 aw5 ?_
  rw [e4, e5]
  rw [e3] at M7
  exact M7.perm (by classical exact List.perm_iff_count.2 fun a => by simp only [List.count_cons]; ac_rfl)
end
end Go.Proofs.Tryd
