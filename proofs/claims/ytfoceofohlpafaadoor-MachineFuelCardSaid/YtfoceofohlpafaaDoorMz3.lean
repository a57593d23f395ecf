/- machine: a closure is made; a function is called. -/
import Derived.Test.YtfoceofohlpafaaDoorMz2
set_option linter.unusedSectionVars false
set_option linter.unusedVariables false
set_option linter.unusedSimpArgs false
namespace Go.Proofs.Tryd
open Go Go.Am Go.RowKit
variable [SymE]
set_option maxHeartbeats 1000000
theorem wrap_i64 (n : Int) : IntKind.i64.wrap n = (n + 9223372036854775808) % 18446744073709551616 - 9223372036854775808 := by
  simp only [IntKind.wrap, IntKind.bits, IntKind.signed]
  simp
  split <;> omega
theorem Nw_WN {n : Int} (h1 : -4611686018427387904 ≤ n) (h2 : n < 4611686018427387904) : Nw ((WN n : Nat) : Int) = n := by
  rw [← Wn_nat]
  unfold Nw Wn
  rw [show min (1 : Int).toNat IntKind.i64.bits = 1 from rfl, wrap_i64, Int.fdiv_eq_ediv_of_nonneg _ (by decide)]
  omega
section
variable {aw0 aw : AW} {own : List Nat} {ro l Lm : List (Nat × Blk)} {m bs bf ib k f pc base w i j hb mb gb qu nf cf bu_ : Nat} {h fu gl sk fr tr ad bu mo v : Value} {fuel space most ct : Int} {E : List PanicEntry → AW → Prop} {sj fs js mj : List Value} {n ia : Int} {s : ByteArray} {st ws gs : List Nat} {BF : Blk} {Q : Unit → AW → Prop}
theorem ins_clos (hv : SlP 26 1 v ws.length (ws.map W ++ mj) Lm) (hst : st.length < 2 ^ 39) (hq : qu < 2 ^ 30) (hroom : ws.length + 2 ≤ qu)
    (M : Hp aw0 own ro aw ((ib, IB 6 n 0 s) :: (m, MB (Pt hb) fu gl (Sl bs st.length) fr tr fuel space most ad bu mo) :: (bf, BF) :: (bs, WB st sj) :: (hb, HB v (qu : Int) ct) :: (Lm ++ l)))
    (hQ : ∀ bs' mb aw', Hp aw0 own ro aw' ((m, MB (Pt hb) fu gl (Sl bs' (st ++ [2 * ws.length]).length) fr tr fuel space most ad bu mo) :: (bf, BF) :: (bs', WB (st ++ [2 * ws.length]) []) :: (hb, HB (Sl mb (ws ++ [256 + 5] ++ [WN n]).length) (qu : Int) ct) :: (mb, WB (ws ++ [256 + 5] ++ [WN n]) []) :: l) → Q () aw') :
    S58_1 Q E (Pt m) sk (Pt ib) 6 aw := by
  unfold S58_1
  iterate 6 (first | refine cnd_0x rfl ?_)
  refine cnd_1x rfl (fldA_x (ldI_x (M.im .here) (by repeat constructor) (fldA_x (ldI_x (M.im .here) (by repeat constructor) (num_x _ ?_)))))
  rw [Wn_nat]
  refine again_x (M.im .here) (by repeat constructor) (alcS_x M fun pb aw1 M1 => again_x (M1.im (.there .here)) (by repeat constructor) ?_)
  have M1 : Hp aw0 own ro aw1 ((pb, WB [WN n] []) :: (ib, IB 6 n 0 s) :: (m, MB (Pt hb) fu gl (Sl bs st.length) fr tr fuel space most ad bu mo) :: (bf, BF) :: (bs, WB st sj) :: (hb, HB v (qu : Int) ct) :: (Lm ++ l)) := M1
  have M2 : Hp aw0 own ro aw1 ((m, MB (Pt hb) fu gl (Sl bs st.length) fr tr fuel space most ad bu mo) :: (bs, WB st sj) :: (hb, HB v (qu : Int) ct) :: (pb, WB [WN n] []) :: (Lm ++ ((bf, BF) :: l))) := (M1.drop (.there .here)).perm (by
    classical exact List.perm_iff_count.2 fun a => by simp only [List.count_append, List.count_cons]; ac_rfl)
  refine put0_x (kind := 5) (by decide) (by decide) hv hst hq hroom M2 fun bs' mb aw2 M3 => ?_
  exact hQ bs' mb aw2 (M3.perm (by
    classical exact List.perm_iff_count.2 fun a => by simp only [List.count_cons]; ac_rfl))
theorem ins_call {fi x x0 : Nat} (M : Hp aw0 own ro aw ((ib, IB 7 n ia s) :: (m, MB (Pt hb) (.slice (some ⟨bu_, 0, none⟩) nf cf) gl (Sl bs (st.length + 2)) (Sl bf (k + 1)) tr fuel space most ad bu mo) :: (bf, FB fs f pc base js) :: (bs, WB (st ++ [2 * j] ++ [x]) sj) :: l))
    (hst : st.length < 2 ^ 39) (hk : fs.length = k * 3) (hk' : k < 2 ^ 39) (h0 : 0 < fuel) (h1 : fuel < 2 ^ 60) (hH : At l hb (HB (Sl mb ws.length) (qu : Int) ct)) (hM : At l mb (WB ws mj)) (hn : ws.length < 2 ^ 60)
    (hj : ws[j]? = some x0) (hx : x0 < 2 ^ 64) (hkd : x0 % 256 = 5) (hl0 : 0 < x0 / 256) (hy : ws[j + 1]? = some (WN fi)) (hfi : fi < nf) (hfi2 : fi < 2 ^ 40)
    (hQ : ∀ bf' aw', Hp aw0 own ro aw' ((m, MB (Pt hb) (.slice (some ⟨bu_, 0, none⟩) nf cf) gl (Sl bs (st.length + 2)) (Sl bf' (k + 2)) tr (fuel - 1) space most ad bu mo) :: (bf', FB (fs ++ [.int .i64 (f : Int), .int .i64 (pc : Int), .int .i64 (base : Int)]) fi 0 (st.length + 1) []) :: (bs, WB (st ++ [2 * j] ++ [x]) sj) :: l) → Q () aw') :
    S58_1 Q E (Pt m) sk (Pt ib) 7 aw := by
  unfold S58_1
  iterate 7 (first | refine cnd_0x rfl ?_)
  refine cnd_1x rfl ?_
  refine F72_ok _ aw ?_
  unfold S72_0
  have M1 := M.drop .here
  have ga : (st ++ [2 * j] ++ [x])[st.length]? = some (2 * j) := by rw [List.getElem?_append_left (by simp), List.getElem?_append_right (by simp)]; simp
  refine step_x M1 h0 h1 fun aw1 M => ?_
  refine nck_x (fldA_x (ldV_x (M.im .here) (by repeat constructor) (slen_x (nck_x (fldA_x (ldV_x (M.im .here) (by repeat constructor) ?_))))))
  rw [show IntKind.i64.wrap (((st.length + 2 : Nat) : Int) - 2) = ((st.length : Nat) : Int) by rw [show ((st.length + 2 : Nat) : Int) - 2 = ((st.length : Nat) : Int) by omega, i64_nat (by omega)]]
  refine ixS_x (by omega) (by omega) (ldI_x (M.im (.there (.there .here))) (cellW ga) ?_)
  have iH := M.im (.there (.there (.there hH)))
  have iM := M.im (.there (.there (.there hM)))
  refine nck_x (fldA_x (ldV_x (M.im .here) (by repeat constructor) (kind_x iH iM hn rfl hj (cnd_1x (by rw [hkd]; rfl) ?_))))
  refine mpart_x (i := 0) iH iM (M.im .here) hn hj hx (by omega) hl0 hy (n_x _ ?_)
  have e1 : Nw ((WN fi : Nat) : Int) = (fi : Int) := Nw_WN (by omega) (by omega)
  rw [e1]
  refine cnd_0x (decide_eq_false (by omega)) (nck_x (fldA_x (ldV_x (M.im .here) (by repeat constructor) (slen_x (cnd_0x (decide_eq_false (by omega)) ?_)))))
  refine nck_x (fldA_x (ldV_x (M.im .here) (by repeat constructor) (alcS_x M fun pb aw2 M2 => ?_)))
  rw [show IntKind.i64.wrap (((st.length + 2 : Nat) : Int) - 1) = ((st.length + 1 : Nat) : Int) by rw [show ((st.length + 2 : Nat) : Int) - 1 = ((st.length + 1 : Nat) : Int) by omega, i64_nat (by omega)]] at M2
  refine app_mv M2 (by repeat constructor) (by simp; omega) (src_s (M2.im .here) rfl (.take (.take (.take .nil)))) rfl (by omega) fun bf' aw3 M3 => ?_
  refine nck_x (fldA_x (st_x M3 (.there (.there .here)) (by repeat constructor) rfl rfl rfl fun aw4 M4 => ?_))
  have M5 := (M4.drop (.there .here)).front (.there .here)
  refine hQ bf' aw4 ?_
  have e2 : (fs ++ [Value.int .i64 (f : Int), .int .i64 (pc : Int), .int .i64 (base : Int)] ++ js).take ((k + 1) * 3) = fs ++ [.int .i64 (f : Int), .int .i64 (pc : Int), .int .i64 (base : Int)] := by
    rw [List.take_append_of_le_length (by simp; omega), List.take_of_length_le (by simp; omega)]
  rw [e2] at M5
  have e3 : FB (fs ++ [.int .i64 (f : Int), .int .i64 (pc : Int), .int .i64 (base : Int)]) fi 0 (st.length + 1) [] = ⟨fs ++ [.int .i64 (f : Int), .int .i64 (pc : Int), .int .i64 (base : Int)] ++ [.int .i64 (fi : Int), .int .i64 0, .int .i64 ((st.length + 1 : Nat) : Int)], 85, 3, true, 0⟩ := by simp [FB]
  rw [e3]
  exact M5
theorem ins_call0 (M : Hp aw0 own ro aw ((ib, IB 7 n ia s) :: (m, MB h fu gl (Sl bs st.length) fr tr 0 space most ad bu mo) :: l)) (hE : ∀ aw', Hp aw0 own ro aw' ((m, MB h fu gl (Sl bs st.length) fr tr 0 space most ad bu mo) :: l) → E (over 10) aw') : S58_1 Q E (Pt m) sk (Pt ib) 7 aw := by
  unfold S58_1
  iterate 7 (first | refine cnd_0x rfl ?_)
  refine cnd_1x rfl ?_
  refine F72_ok _ aw ?_
  unfold S72_0
  have M1 := M.drop .here
  exact step_0 M1 (hE aw M1)
end
end Go.Proofs.Tryd
