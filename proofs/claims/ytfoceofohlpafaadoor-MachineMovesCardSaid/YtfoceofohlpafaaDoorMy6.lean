/- MachineMoves: the law's own loops. -/
import Derived.Test.YtfoceofohlpafaaDoorMy5
set_option linter.unusedVariables false
set_option linter.unusedSimpArgs false
set_option linter.unusedSectionVars false
set_option maxRecDepth 100000
namespace Go.Proofs.YtfoceofohlpafaaDoor
open Go Go.Am Go.RowKit Go.Ri Go.Proofs.Tryd
variable [SymE]
def LsAt (ro : List (Nat × Blk)) (v : Value) (ls : List (Bool × Int)) : Prop := (v = .slice none 0 0 ∧ ls = []) ∨ ∃ b el rw_ fz, v = .slice (some ⟨b, 0, none⟩) ls.length UNK ∧ (ls = [] ∨ At ro b ⟨mvC ls, el, 2, rw_, fz⟩)
theorem mvC_get : ∀ {ls : List (Bool × Int)} {i : Nat} {x : Bool × Int}, ls[i]? = some x → (mvC ls)[i * 2]? = some (.bool x.1) ∧ (mvC ls)[i * 2 + 1]? = some (.int .i64 x.2)
  | y :: r, 0, x, h => by cases h; exact ⟨rfl, rfl⟩
  | y :: r, i + 1, x, h => by
    have := mvC_get (ls := r) (i := i) (x := x) (by simpa using h)
    rw [show (i + 1) * 2 = i * 2 + 2 by omega]
    exact this
theorem rep_len (s : List UInt8) : ∀ t, (rep s t).length = t * s.length
  | 0 => by simp [rep]
  | t + 1 => by rw [rep, List.length_append, rep_len s t, Nat.add_mul, Nat.one_mul]
section
variable {aw0 aw : AW} {own : List Nat} {ro l L : List (Nat × Blk)} {t1 t2 : TypeId} {E : List PanicEntry → AW → Prop} {s : List UInt8} {ls : List (Bool × Int)} {v lv : Value} {os : List Value}
theorem LsAt.slen {K : Int → Prop} (h : LsAt ro lv ls) (k : K (ls.length : Int)) : slen lv K := by
  rcases h with ⟨rfl, rfl⟩ | ⟨b, el, rw_, fz, rfl, _⟩
  · exact slen_x k
  · exact slen_x k
theorem LsAt.get {K : Value → Prop} {i : Nat} {x : Bool × Int} (h : LsAt ro lv ls) (hx : ls[i]? = some x) (k : ∀ b, (∃ el rw_ fz, At ro b ⟨mvC ls, el, 2, rw_, fz⟩) → K (.pointer (some ⟨b, 0 + ((i : Nat) : Int).toNat * 2, none⟩))) : ixS lv (i : Int) 2 K := by
  have hlt : i < ls.length := (List.getElem?_eq_some_iff.1 hx).1
  rcases h with ⟨rfl, rfl⟩ | ⟨b, el, rw_, fz, rfl, h⟩
  · cases hlt
  · rcases h with rfl | h
    · cases hlt
    · exact ixS_x (by omega) (by omega) (k b ⟨el, rw_, fz, h⟩)
theorem app4 {K : Value → AW → Prop} {pb i j : Nat} {cs : List Value} (hp : SlP 34 4 v i os L) (hos : os.length = i * 4) (M : Hp aw0 own ro aw ((pb, ⟨cs, 34, 4, true, 0⟩) :: (L ++ l))) (hcs : cs.length = j * 4) (h1 : cs.all one = true) (hi : i < 1000) (hj : j < 1000) (h0 : 0 < j)
    (h : ∀ b aw', Hp aw0 own ro aw' ((b, ⟨os ++ cs, 34, 4, true, 0⟩) :: l) → K (.slice (some ⟨b, 0, none⟩) (i + j) UNK) aw') : app aw 34 4 40 v (.slice (some ⟨pb, 0, none⟩) j j) K := by
  have M1 : Hp aw0 own ro aw (L ++ (pb, ⟨cs, 34, 4, true, 0⟩) :: l) := M.perm (by
    classical exact List.perm_iff_count.2 fun a => by simp only [List.count_append, List.count_cons]; omega)
  refine app_p hp M1 (src_x (M.im .here) (by show 0 + j * 4 ≤ cs.length; omega) (by rw [List.drop_zero]; exact List.take_of_length_le (by show cs.length ≤ j * 4; omega))) h0 h1 (by omega) fun b aw' M2 => h b aw' ?_
  rw [List.take_of_length_le (by omega)] at M2
  exact M2.drop (.there .here)
theorem buildM {Q : Bool → AW → Prop} (hlv : LsAt ro lv ls) {n : Nat} (hn : n = min ls.length 14) : ∀ (r i : Nat) (v : Value) (L : List (Nat × Blk)) (aw : AW), i + r = n → SlP 34 4 v (8 * i) (mcV (mkB s) (ls.take i)) L → Hp aw0 own ro aw (L ++ l) →
    (∀ nx v L aw', SlP 34 4 v (8 * n) (mcV (mkB s) (ls.take n)) L → Hp aw0 own ro aw' (L ++ l) → S5_2 Q E nx lv (mkB s) v (n : Int) (n : Int) false aw') → S5_1 Q E (1 + r) lv (mkB s) v (i : Int) (i : Int) aw
  | 0, i, v, L, aw, h, hp, M, K => by
    obtain rfl : i = n := by omega
    show S5_1s Q E _ _ _ _ _ _ _
    unfold S5_1s
    refine hlv.slen ?_
    by_cases h14 : i < ls.length
    · refine cnd_1x (decide_eq_true (by omega)) ?_
      rw [decide_eq_false (show ¬ (i : Int) < 14 by omega)]
      exact K _ v L aw hp M
    · exact cnd_0x (decide_eq_false (by omega)) (K _ v L aw hp M)
  | r + 1, i, v, L, aw, h, hp, M, K => by
    show S5_1s Q E (S5_1 Q E (1 + r)) _ _ _ _ _ _
    unfold S5_1s
    have hlt : i < ls.length := by omega
    have hx : ls[i]? = some ls[i] := List.getElem?_eq_getElem hlt
    obtain ⟨g1, g2⟩ := mvC_get hx
    refine hlv.slen (cnd_1x (decide_eq_true (by omega)) ?_)
    rw [decide_eq_true (show (i : Int) < 14 by omega)]
    unfold S5_2
    refine cnd_1x rfl (hlv.get hx fun lb hb => ?_)
    obtain ⟨el, rw_, fz, hb⟩ := hb
    refine fldA_x (ldB_x (M.ir hb) (Cell.of (by rw [show 0 + ((i : Nat) : Int).toNat * 2 + 0 = i * 2 by omega]; exact g1)) ?_)
    have key : S5_7 Q E (S5_1 Q E (1 + r)) lv (mkB s) v (i : Int) (i : Int) ((gN ls[i].1 : Nat) : Int) aw := by
      unfold S5_7
      refine alcS_x M fun pb aw1 M1 => ?_
      refine app4 (j := 4) hp (by rw [mcV_len, List.length_take]; omega) M1 rfl rfl (by omega) (by omega) (by omega) fun b aw2 M2 => ?_
      refine hlv.get hx fun lb hb => ?_
      obtain ⟨el, rw_, fz, hb⟩ := hb
      refine fldA_x (ldI_x (M2.ir hb) (Cell.of (by rw [show 0 + ((i : Nat) : Int).toNat * 2 + 1 = i * 2 + 1 by omega]; exact g2)) ?_)
      refine alcS_x M2 fun pb aw3 M3 => ?_
      refine app4 (L := [(b, _)]) (j := 4) (.some ?_) ?_ M3 rfl rfl (by omega) (by omega) (by omega) fun b2 aw4 M4 => ?_
      · rw [List.length_append, mcV_len, List.length_take]; simp; omega
      · rw [List.length_append, mcV_len, List.length_take]; simp; omega
      rw [show (i : Int) + 1 = ((i + 1 : Nat) : Int) by omega, Tryd.i64_nat (by omega)]
      have e : ls.take (i + 1) = ls.take i ++ [ls[i]] := by rw [List.take_add_one, hx]; rfl
      have e2 : mcV (mkB s) (ls.take (i + 1)) = mcV (mkB s) (ls.take i) ++ stepC (.string (mkB s)) (.int .i64 ((gN ls[i].1 : Nat) : Int)) (.int .i64 ls[i].2) := by rw [e, mcV_app]; rfl
      have M5 : Hp aw0 own ro aw4 ([(b2, ⟨mcV (mkB s) (ls.take (i + 1)), 34, 4, true, 0⟩)] ++ l) := by
        rw [e2]
        rw [List.append_assoc] at M4
        exact M4
      rw [show 8 * i + 4 + 4 = 8 * (i + 1) by omega]
      exact buildM hlv hn r (i + 1) _ _ aw4 (by omega) (.some (by rw [mcV_len, List.length_take]; omega)) M5 K
    cases hq : ls[i].1 with
    | true => rw [hq] at key; exact cnd_1x rfl key
    | false => rw [hq] at key; exact cnd_0x rfl key
theorem outM {Q : Bool → AW → Prop} {n : Nat} {r : Value} (hs : s.length ≤ 200) (hn : n ≤ 14) (K : S5_4 Q E lv (n : Int) r (mkB ((rep s (min n 11)).take 50)) aw) : ∀ (k i : Nat), i + k = min n 11 → S5_3 Q E (1 + k) lv (mkB s) (n : Int) r (mkB (rep s i)) (i : Int) aw
  | 0, i, h => by
    obtain rfl : i = min n 11 := by omega
    show S5_3s Q E _ _ _ _ _ _ _ _
    unfold S5_3s
    have hl := rep_len s (min n 11)
    have fin : cnd (decide (50 < ((mkB (rep s (min n 11))).size : Int))) (cutS (mkB (rep s (min n 11))) 0 50 fun s218 => S5_4 Q E lv (n : Int) r s218 aw) (S5_4 Q E lv (n : Int) r (mkB (rep s (min n 11))) aw) := by
      rw [mkB_size]
      by_cases h50 : 50 < (rep s (min n 11)).length
      · refine cnd_1x (decide_eq_true (by omega)) (cutS_i (a := 0) (d := 50) rfl rfl (by omega) (by omega) ?_)
        exact K
      · refine cnd_0x (decide_eq_false (by omega)) ?_
        rw [List.take_of_length_le (by omega)] at K
        exact K
    by_cases h1 : n ≤ 11
    · exact cnd_0x (decide_eq_false (by omega)) fin
    · exact cnd_1x (decide_eq_true (by omega)) (cnd_0x (decide_eq_false (by omega)) fin)
  | k + 1, i, h => by
    show S5_3s Q E (S5_3 Q E (1 + k)) _ _ _ _ _ _ _
    unfold S5_3s
    have hl := rep_len s i
    have hm : i * s.length ≤ 14 * 200 := Nat.mul_le_mul (by omega) hs
    refine cnd_1x (decide_eq_true (by omega)) (cnd_1x (decide_eq_true (by omega)) ⟨by rw [mkB_size, mkB_size]; omega, ?_⟩)
    rw [mkB_append, show (i : Int) + 1 = ((i + 1 : Nat) : Int) by omega, Tryd.i64_nat (by omega)]
    exact outM hs hn K k (i + 1) (by omega)
abbrev RBk (e w : Int) (rs out : ByteArray) (mv : Value) (fu : Int) : Blk := ⟨[.int .i64 e, .int .u64 w, .string rs, .string out, mv, .int .i64 fu], 29, 0, true, 0⟩
theorem sameM {n r : Nat} {e w fu : Int} {rs out : ByteArray} (hlv : LsAt ro lv ls) (hn : n = min ls.length 14) (hc : (n ≤ 10 ∧ e = 0 ∧ fu = 100 - 2 * (n : Int)) ∨ (10 < n ∧ e = 9)) {k : Nat} (hk : k = min n 10) {Lm : List (Nat × Blk)} {mo : Value} (hM : MovB mo (mvs (ls.take k)) Lm)
    (M : Hp aw0 own ro aw ((r, RBk e w rs out mo fu) :: (Lm ++ l))) : ∀ (q i : Nat), i + q = k → S5_6 (fun r _ => r = true) E (1 + q) lv (n : Int) (Pt r) (k : Int) (i : Int) aw
  | 0, i, h => by
    obtain rfl : i = k := by omega
    show S5_6s _ E _ _ _ _ _ _ _
    unfold S5_6s
    refine cnd_0x (decide_eq_false (by omega)) ?_
    by_cases h10 : 10 < n
    · exact cnd_1x (decide_eq_true (by omega)) rfl
    · refine cnd_0x (decide_eq_false (by omega)) ?_
      rcases hc with ⟨_, rfl, rfl⟩ | ⟨h, _⟩
      · refine fldA_x (ldI_x (M.im .here) (by repeat constructor) (cnd_1x rfl (fldA_x (ldI_x (M.im .here) (by repeat constructor) ?_))))
        rw [show 2 * (n : Int) = ((2 * n : Nat) : Int) by omega, Tryd.i64_nat (by omega), i64_in (by omega) (by omega)]
        exact decide_eq_true (by omega)
      · omega
  | q + 1, i, h => by
    show S5_6s _ E (S5_6 _ E (1 + q)) _ _ _ _ _ _
    unfold S5_6s
    have hlt : i < ls.length := by omega
    have hx : ls[i]? = some ls[i] := List.getElem?_eq_getElem hlt
    obtain ⟨g1, g2⟩ := mvC_get hx
    have hy : (mvs (ls.take k))[i]? = some (ls[i].1, Nw ((WN ls[i].2 : Nat) : Int)) := by
      rw [List.getElem?_map, List.getElem?_take, if_pos (by omega), hx]; rfl
    obtain ⟨f1, f2⟩ := mvC_get hy
    have hml : (mvs (ls.take k)).length = k := by rw [List.length_map, List.length_take]; omega
    have hget : ∃ b, mo = Sl b k ∧ At (Lm ++ l) b ⟨mvC (mvs (ls.take k)), 48, 2, true, 0⟩ := by
      have hM2 := hM
      generalize hcs : mvC (mvs (ls.take k)) = cs at hM2
      rw [show MovB mo (mvs (ls.take k)) Lm = SlP 48 2 mo (mvs (ls.take k)).length (mvC (mvs (ls.take k))) Lm from rfl] at hM
      rw [hml, hcs] at hM
      cases hM with
      | nil => omega
      | some h => exact ⟨_, rfl, .here⟩
    obtain ⟨b, hmo, hb⟩ := hget
    subst hmo
    refine cnd_1x (decide_eq_true (by omega)) (fldA_x (ldV_x (M.im .here) (by repeat constructor) ?_))
    refine ixS_x (by omega) (by omega) (fldA_x (ldB_x (M.im (.there hb)) (Cell.of (by rw [show 0 + ((i : Nat) : Int).toNat * 2 + 0 = i * 2 by omega]; exact f1)) ?_))
    refine hlv.get hx fun lb h3 => ?_
    obtain ⟨el, rw_, fz, h3⟩ := h3
    refine fldA_x (ldB_x (M.ir h3) (Cell.of (by rw [show 0 + ((i : Nat) : Int).toNat * 2 + 0 = i * 2 by omega]; exact g1)) (cnd_0x (by simp) ?_))
    refine fldA_x (ldV_x (M.im .here) (by repeat constructor) (ixS_x (by omega) (by omega) (fldA_x (ldI_x (M.im (.there hb)) (Cell.of (by rw [show 0 + ((i : Nat) : Int).toNat * 2 + 1 = i * 2 + 1 by omega]; exact f2)) ?_))))
    refine hlv.get hx fun lb h4 => ?_
    obtain ⟨el, rw_, fz, h4⟩ := h4
    refine fldA_x (ldI_x (M.ir h4) (Cell.of (by rw [show 0 + ((i : Nat) : Int).toNat * 2 + 1 = i * 2 + 1 by omega]; exact g2)) ?_)
    refine F12_ok _ aw ?_
    unfold S12_0
    rw [cut_eq]
    refine again_x (M.im .here) (by repeat constructor) (again_x (M.im (.there hb)) (Cell.of (by rw [show 0 + ((i : Nat) : Int).toNat * 2 + 1 = i * 2 + 1 by omega]; exact f2)) (cnd_0x (by simp) ?_))
    rw [show (i : Int) + 1 = ((i + 1 : Nat) : Int) by omega, Tryd.i64_nat (by omega)]
    exact sameM hlv hn hc hk hM M q (i + 1) (by omega)
theorem moves_law (hro : ∀ p ∈ ro0 t1 t2, p ∈ ro) (hlv : LsAt ro lv ls) (h0 : SymE.E 0 = .string (mkB s)) (h1 : ∀ t x, (ls.take 14)[t]? = some x → SymE.E (1 + 2 * t) = .int .i64 ((gN x.1 : Nat) : Int) ∧ SymE.E (2 + 2 * t) = .int .i64 x.2) (h2 : ∀ t, SymE.E (1 + 2 * t) = .int .i64 2 ∨ SymE.E (1 + 2 * t) = .int .i64 7)
    (M : Hp aw0 own ro aw l) : CallP Tryd.prog 5 [lv, .string (mkB s)] aw Tryd.sh5 (fun r _ => r = true) E := by
  refine F5_ok _ _ aw ?_
  unfold S5_0
  refine awk_x (M.less hro) (cnd_0x rfl ?_)
  rw [mkB_size]
  by_cases hs : 200 < s.length
  · exact cnd_1x (decide_eq_true (by omega)) (awk_x (M.less hro) rfl)
  refine cnd_0x (decide_eq_false (by omega)) ⟨1 + min ls.length 14, ?_⟩
  refine buildM (n := min ls.length 14) hlv rfl (min ls.length 14) 0 (.slice none 0 0) [] aw (by omega) .nil M fun nx v L aw1 hp M1 => ?_
  unfold S5_2
  refine cnd_0x rfl (alcS_x M1 fun pb aw2 M2 => ?_)
  refine app4 (j := 2) hp (by rw [mcV_len, List.length_take]; omega) M2 rfl rfl (by omega) (by omega) (by omega) fun cb aw3 M3 => ?_
  have et : ls.take (min ls.length 14) = ls.take 14 := by
    rcases Nat.le_total ls.length 14 with h | h
    · rw [Nat.min_eq_left h, List.take_of_length_le (Nat.le_refl _), List.take_of_length_le h]
    · rw [Nat.min_eq_right h]
  have hl14 : (ls.take 14).length = min ls.length 14 := by rw [List.length_take]; omega
  rw [et] at M3
  refine movesRun (ls := ls.take 14) hro h0 h1 h2 (by omega) (by omega) (by rw [hl14]) M3 fun e w rs mo fu m aw4 Lm l' hc hM M4 => ?_
  rw [hl14] at hc hM ⊢
  have hmo : one mo = true := by obtain ⟨q, c, hv⟩ := hM.val; rw [hv]; rfl
  refine alc_x M4 fun r aw5 M5 => st_x M5 .here (by repeat constructor) rfl rfl (by simp only [List.all_cons, List.all_nil, hmo, Bool.and_true]; rfl) fun aw6 M6 => ⟨1 + min (min ls.length 14) 11, ?_⟩
  have M6 : Hp aw0 own ro aw6 ((r, RBk e w rs (mkB ((rep s (min (min ls.length 14) 11)).take 50)) mo fu) :: (Lm ++ l')) := M6
  generalize hn : min ls.length 14 = n at *
  refine outM (i := 0) (by omega) (by omega) ?_ (min n 11) (by omega)
  have hk : min n 10 = (if 10 < n then 10 else n) := by split <;> omega
  have e10 : (ls.take 14).take (min n 10) = ls.take (min n 10) := by rw [List.take_take]; congr 1; omega
  rw [e10] at hM
  have hml : (mvs (ls.take (min n 10))).length = min n 10 := by rw [List.length_map, List.length_take]; omega
  have five : S5_5 (fun r _ => r = true) E lv (n : Int) (Pt r) (mkB ((rep s (min n 11)).take 50)) ((min n 10 : Nat) : Int) aw6 := by
    unfold S5_5
    refine fldA_x (ldS_x (M6.im .here) (by repeat constructor) (cnd_0x (by simp) (fldA_x (ldV_x (M6.im .here) (by repeat constructor) ?_))))
    obtain ⟨q, c, hv⟩ := hM.val
    have hsl : ∀ K : Int → Prop, K ((min n 10 : Nat) : Int) → slen mo K := fun K h => by rw [hv, hml]; exact slen_x h
    refine hsl _ (cnd_0x (by simp) (fldA_x (ldI_x (M6.im .here) (by repeat constructor) ?_)))
    rcases hc with ⟨c1, rfl, rfl⟩ | ⟨c1, rfl, rfl⟩
    · refine cnd_0x (by rw [decide_eq_false (show ¬ (10 : Int) < n by omega)]; rfl) (cnd_0x (decide_eq_false (by omega)) ⟨1 + min n 10, ?_⟩)
      exact sameM hlv hn.symm (.inl ⟨c1, rfl, rfl⟩) rfl hM M6 (min n 10) 0 (by omega)
    · refine cnd_0x (by rw [decide_eq_true (show (10 : Int) < n by omega)]; rfl) (cnd_1x (decide_eq_true (by omega)) (fldA_x (ldS_x (M6.im .here) (by repeat constructor) (cnd_0x (by simp) ⟨1 + min n 10, ?_⟩))))
      exact sameM hlv hn.symm (.inr ⟨c1, rfl⟩) rfl hM M6 (min n 10) 0 (by omega)
  unfold S5_4
  by_cases h10 : 10 < n
  · rw [show min n 10 = 10 by omega] at five
    exact cnd_1x (decide_eq_true (by omega)) five
  · rw [show min n 10 = n by omega] at five
    exact cnd_0x (decide_eq_false (by omega)) five
end
end Go.Proofs.YtfoceofohlpafaaDoor
