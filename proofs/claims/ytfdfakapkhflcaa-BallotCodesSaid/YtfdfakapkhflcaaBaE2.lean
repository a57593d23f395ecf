/- ballot.Encode and the document's: what they lay. -/
import Derived.Test.YtfdfakapkhflcaaBaE1
import Derived.Test.YtfdfakapkhflcaaBaW2
import Derived.Test.YtfdfakapkhflcaaBaW3
import Derived.Test.YtfdfakapkhflcaaBaS8
import Derived.Test.YtfdfakapkhflcaaBaE
set_option linter.unusedSimpArgs false
set_option linter.unusedVariables false
set_option linter.unusedSectionVars false
namespace Go.Am
open Go
theorem At.app {l l' : List (Nat × Blk)} {b : Nat} {B : Blk} (h : At l b B) : At (l' ++ l) b B := by
  induction l' with
  | nil => exact h
  | cons x l' ih => exact .there ih
theorem Out.app {l l2 l' : List (Nat × Blk)} {b : Nat} {B : Blk} (h : Out l b B l2) : Out (l' ++ l) b B (l' ++ l2) := by
  induction l' with
  | nil => exact h
  | cons x l' ih => exact .there ih
end Go.Am
namespace Go.Proofs.Try
open Go Go.Am Go.RowKit Go.Oc
variable [SymE]
abbrev EnB (b : Nat) (e : En) (cv : Value) : Nat × Blk := (b, ⟨[.int .u64 e.term, .int .u64 e.session, .int .u64 e.number, cv], 40, 0, true, 0⟩)
section
variable {aw0 aw : AW} {own : List Nat} {ro l L S : List (Nat × Blk)} {E : List PanicEntry → AW → Prop} {v pv ev dv : Value} {bs : List UInt8} {m : Ms} {wb mb : Nat} {Q : Value → AW → Prop}
theorem enc_loop {hd : List UInt8} (hh : hd.length ≤ 100) (hm : MsOk m) (he : EsS aw0 own ro S ev m.es) (hdv : Rws aw0 own ro S dv m.data) (o2 : one dv = true) (hS : ∀ p ∈ S, p ∈ l)
    (hQ : ∀ v' L aw', Ob 5 v' (sealB (hd ++ (encEs m.es ++ encB m.data))) L → Hp aw0 own ro aw' (L ++ l) → Q v' aw') :
    ∀ (n i : Nat) (pv : Value) (L : List (Nat × Blk)) (aw : AW), i + n = m.es.length → Ob 5 pv (hd ++ encEs (m.es.take i)) L → Hp aw0 own ro aw ((wb, WBk pv) :: (L ++ ((mb, MBk m ev dv) :: l))) → S15_2 Q E (n + 1) (P0 mb) (P0 wb) ev (m.es.length : Int) (i : Int) aw
  | 0, i, pv, L, aw, hi, ho, M => by
    show S15_2s Q E (S15_2 Q E 0) _ _ _ _ _ aw
    unfold S15_2s
    refine cnd_0x (decide_eq_false (by omega)) (fldA_x (ldV_x (M.im (.there (At.app .here))) (by repeat constructor) ?_))
    have e1 : m.es.take i = m.es := List.take_of_length_le (by omega)
    rw [e1] at ho
    have hl1 := encEs_len hm.ee
    have hes := hm.es
    have hdl := hm.d
    refine wbytes_x (by rw [List.length_append]; omega) (by omega) ho M hdv (fun p hp => List.mem_cons_of_mem _ (hS p hp)) fun pv1 L1 aw1 h1 M1 => ?_
    have hbl : (encB m.data).length ≤ 5009 := by
      have := encU_len (n := m.data.length) (by omega)
      simp only [encB, List.length_append]; omega
    refine done_x (by simp only [List.length_append]; omega) h1 M1 fun v2 L2 aw2 h2 M2 => ?_
    refine seal_x M2 h2.rs (fun p hp => List.mem_append.2 (.inl hp)) (by simp only [List.length_append]; omega) fun v3 L3 aw3 h3 M3 => ?_
    have M4 : Hp aw0 own ro aw3 ((L2 ++ ((wb, WBk pv1) :: L1)) ++ ([(mb, MBk m ev dv)] ++ (L3 ++ l))) := M3.perm (by
      classical exact List.perm_iff_count.2 fun a => by simp only [List.count_append, List.count_cons, List.count_nil]; ac_rfl)
    refine hQ v3 L3 aw3 ?_ M4.dropL.dropL
    rw [← List.append_assoc]
    exact h3
  | n + 1, i, pv, L, aw, hi, ho, M => by
    show S15_2s Q E (S15_2 Q E (n + 1)) _ _ _ _ _ aw
    unfold S15_2s
    have hlt : i < m.es.length := by omega
    generalize hx : m.es[i] = e
    have hxi : m.es[i]? = some e := by rw [List.getElem?_eq_getElem hlt, hx]
    have hok : EnOk e := hm.ee e (by rw [← hx]; exact List.getElem_mem hlt)
    have hes := hm.es
    have hl1 := encEs_len (l := m.es.take i) fun e he => hm.ee e (List.mem_of_mem_take he)
    have hl2 : (m.es.take i).length ≤ 50 := by rw [List.length_take]; omega
    have hSL : ∀ {x : Nat × Blk} {L : List (Nat × Blk)}, ∀ p ∈ S, p ∈ x :: (L ++ ((mb, MBk m ev dv) :: l)) := fun p hp => by simp [hS p hp]
    refine cnd_1x (decide_eq_true (by omega)) (ix_e he rfl hxi fun b o cv hc hone hg => ?_)
    obtain ⟨g1, g2, g3, g4⟩ := hg aw _ M hSL
    refine ptr_x ⟨_, g1, _, g2, _, g3, _, g4, alc_x M fun xb aw1 M1 => st_x M1 .here (by repeat constructor) rfl rfl (by show (true && (true && (true && (one cv && true)))) = true; rw [hone]; rfl) fun aw2 M2 => ?_⟩
    have M2 : Hp aw0 own ro aw2 (EnB xb e cv :: (wb, WBk pv) :: (L ++ ((mb, MBk m ev dv) :: l))) := M2
    have M3 : Hp aw0 own ro aw2 ((wb, WBk pv) :: (L ++ (EnB xb e cv :: (mb, MBk m ev dv) :: l))) := M2.perm (by
      classical exact List.perm_iff_count.2 fun a => by simp only [List.count_append, List.count_cons]; ac_rfl)
    refine fldA_x (ldI_x (M3.im (.there (At.app .here))) (by repeat constructor) (fldA_x (ldI_x (M3.im (.there (At.app .here))) (by repeat constructor) (fldA_x (ldI_x (M3.im (.there (At.app .here))) (by repeat constructor) (fldA_x (ldV_x (M3.im (.there (At.app .here))) (by repeat constructor) ?_)))))))
    have u1 := encU_len hok.t
    have u2 := encU_len hok.s
    have u3 := encU_len hok.n
    refine wuint_x hok.t (by rw [List.length_append]; omega) ho M3 fun pv4 L4 aw4 h4 M4 => ?_
    refine again_x (M4.im (.there (At.app .here))) (by repeat constructor) (again_x (M4.im (.there (At.app .here))) (by repeat constructor) (again_x (M4.im (.there (At.app .here))) (by repeat constructor) ?_))
    refine wuint_x hok.s (by simp only [List.length_append]; omega) h4 M4 fun pv5 L5 aw5 h5 M5 => ?_
    refine again_x (M5.im (.there (At.app .here))) (by repeat constructor) (again_x (M5.im (.there (At.app .here))) (by repeat constructor) ?_)
    refine wuint_x hok.n (by simp only [List.length_append]; omega) h5 M5 fun pv6 L6 aw6 h6 M6 => ?_
    refine again_x (M6.im (.there (At.app .here))) (by repeat constructor) ?_
    have hcl := hok.c
    refine wbytes_x (by simp only [List.length_append]; omega) (by omega) h6 M6 hc (fun p hp => by simp [hS p hp]) fun pv7 L7 aw7 h7 M7 => ?_
    rw [show (i : Int) + 1 = ((i + 1 : Nat) : Int) by omega, i64_nat (by omega)]
    refine enc_loop hh hm he hdv o2 hS hQ n (i + 1) pv7 L7 aw7 (by omega) ?_ (M7.drop (.there (Out.app .here)))
    have e1 : encEs (m.es.take (i + 1)) = encEs (m.es.take i) ++ encE e := by
      rw [List.take_add_one, hxi]; simp [encEs]
    rw [e1]
    simpa [encE] using h7
theorem encode_x (M : Hp aw0 own ro aw l) (hm : MsOk m) (he : EsS aw0 own ro S ev m.es) (hdv : Rws aw0 own ro S dv m.data) (o1 : one ev = true) (o2 : one dv = true) (hS : ∀ p ∈ S, p ∈ l)
    (hQ : ∀ v' L aw', Ob 5 v' (sealB (encM m)) L → Hp aw0 own ro aw' (L ++ l) → Q v' aw') :
    CallP prog 15 [.agg #[.int .u8 m.kind, .int .i64 m.frm, .int .i64 m.to, .int .u64 m.term, .int .u64 m.index, .int .u64 m.lterm, .int .u64 m.commit, .bool m.ok, ev, dv]] aw sh15 Q E := by
  refine F15_ok _ _ _ _ _ _ _ _ _ _ aw ?_
  unfold S15_0
  refine alc_x M fun mb aw1 M1 => alc_x M1 fun wb aw2 M2 => ?_
  have M2 : Hp aw0 own ro aw2 ((wb, WBk nilS) :: ([] ++ ((mb, MBk m ev dv) :: l))) := M2
  refine fldA_x (ldI_x (M2.im (.there .here)) (by repeat constructor) (fldA_x (ldI_x (M2.im (.there .here)) (by repeat constructor) (fldA_x (ldI_x (M2.im (.there .here)) (by repeat constructor) (fldA_x (ldI_x (M2.im (.there .here)) (by repeat constructor) (fldA_x (ldI_x (M2.im (.there .here)) (by repeat constructor) (fldA_x (ldI_x (M2.im (.there .here)) (by repeat constructor) (fldA_x (ldI_x (M2.im (.there .here)) (by repeat constructor) ?_)))))))))))))
  have hk := hm.k
  have u1 := encU_len (n := m.kind) (by omega)
  have u2 := encU_len (zig_lt hm.f1 hm.f2)
  have u3 := encU_len (zig_lt hm.t1 hm.t2)
  have u4 := encU_len hm.te
  have u5 := encU_len hm.ix
  have u6 := encU_len hm.lt
  have u7 := encU_len hm.cm
  have u8 : (encU (bn1 m.ok)).length ≤ 9 := encU_len (by unfold bn1; split <;> decide)
  rw [u64_nat (n := m.kind) (by omega)]
  refine wuint_x (by omega) (by decide) .nil M2 fun p1 L1 a1 h1 N1 => ?_
  refine again_x (N1.im (.there (At.app .here))) (by repeat constructor) (again_x (N1.im (.there (At.app .here))) (by repeat constructor) (again_x (N1.im (.there (At.app .here))) (by repeat constructor) (again_x (N1.im (.there (At.app .here))) (by repeat constructor) (again_x (N1.im (.there (At.app .here))) (by repeat constructor) (again_x (N1.im (.there (At.app .here))) (by repeat constructor) ?_)))))
  refine wint_x hm.f1 hm.f2 (by simp only [List.length_append, List.length_nil]; omega) h1 N1 fun p2 L2 a2 h2 N2 => ?_
  refine again_x (N2.im (.there (At.app .here))) (by repeat constructor) (again_x (N2.im (.there (At.app .here))) (by repeat constructor) (again_x (N2.im (.there (At.app .here))) (by repeat constructor) (again_x (N2.im (.there (At.app .here))) (by repeat constructor) (again_x (N2.im (.there (At.app .here))) (by repeat constructor) ?_))))
  refine wint_x hm.t1 hm.t2 (by simp only [List.length_append, List.length_nil]; omega) h2 N2 fun p3 L3 a3 h3 N3 => ?_
  refine again_x (N3.im (.there (At.app .here))) (by repeat constructor) (again_x (N3.im (.there (At.app .here))) (by repeat constructor) (again_x (N3.im (.there (At.app .here))) (by repeat constructor) (again_x (N3.im (.there (At.app .here))) (by repeat constructor) ?_)))
  refine wuint_x hm.te (by simp only [List.length_append, List.length_nil]; omega) h3 N3 fun p4 L4 a4 h4 N4 => ?_
  refine again_x (N4.im (.there (At.app .here))) (by repeat constructor) (again_x (N4.im (.there (At.app .here))) (by repeat constructor) (again_x (N4.im (.there (At.app .here))) (by repeat constructor) ?_))
  refine wuint_x hm.ix (by simp only [List.length_append, List.length_nil]; omega) h4 N4 fun p5 L5 a5 h5 N5 => ?_
  refine again_x (N5.im (.there (At.app .here))) (by repeat constructor) (again_x (N5.im (.there (At.app .here))) (by repeat constructor) ?_)
  refine wuint_x hm.lt (by simp only [List.length_append, List.length_nil]; omega) h5 N5 fun p6 L6 a6 h6 N6 => ?_
  refine again_x (N6.im (.there (At.app .here))) (by repeat constructor) ?_
  refine wuint_x hm.cm (by simp only [List.length_append, List.length_nil]; omega) h6 N6 fun p7 L7 a7 h7 N7 => ?_
  refine fldA_x (ldB_x (N7.im (.there (At.app .here))) (by repeat constructor) ?_)
  have fin : ∀ (aw : AW) (pv : Value) (L : List (Nat × Blk)), Ob 5 pv (encH m) L → Hp aw0 own ro aw ((wb, WBk pv) :: (L ++ ((mb, MBk m ev dv) :: l))) → S15_1 Q E (P0 mb) (P0 wb) aw := fun aw pv L ho N => by
    unfold S15_1
    have hes := hm.es
    have hhl := encH_len hm
    have u9 := encU_len (n := m.es.length) (by omega)
    refine fldA_x (ldV_x (N.im (.there (At.app .here))) (by repeat constructor) (slen_e he ?_))
    rw [u64_nat (by omega)]
    refine wuint_x (by omega) (by omega) ho N fun p9 L9 a9 h9 N9 => ?_
    refine fldA_x (ldV_x (N9.im (.there (At.app .here))) (by repeat constructor) (slen_e he ⟨m.es.length + 1, ?_⟩))
    refine enc_loop (hd := encH m ++ encU m.es.length) (by rw [List.length_append]; omega) hm he hdv o2 hS (fun v' L aw' k1 k2 => hQ v' L aw' (by simpa [encM] using k1) k2) m.es.length 0 p9 L9 a9 (by omega) ?_ N9
    simpa [encEs] using h9
  have hok : ∀ b : Bool, m.ok = b → ∀ (aw : AW) (pv : Value) (L : List (Nat × Blk)), Ob 5 pv ((((((([] ++ encU m.kind) ++ encU (zig m.frm)) ++ encU (zig m.to)) ++ encU m.term) ++ encU m.index) ++ encU m.lterm) ++ encU m.commit ++ encU (bn1 b)) L → Hp aw0 own ro aw ((wb, WBk pv) :: (L ++ ((mb, MBk m ev dv) :: l))) → S15_1 Q E (P0 mb) (P0 wb) aw := fun b hb aw pv L ho N => by
    subst hb
    exact fin aw pv L (by simpa [encH] using ho) N
  cases hmo : m.ok with
  | true =>
    refine cnd_1x rfl ?_
    exact wuint_x (n := 1) (by decide) (by simp only [List.length_append, List.length_nil]; omega) h7 N7 fun p8 L8 a8 h8 N8 => hok true hmo a8 p8 L8 h8 N8
  | false =>
    refine cnd_0x rfl ?_
    exact wuint_x (n := 0) (by decide) (by simp only [List.length_append, List.length_nil]; omega) h7 N7 fun p8 L8 a8 h8 N8 => hok false hmo a8 p8 L8 h8 N8
end
end Go.Proofs.Try
