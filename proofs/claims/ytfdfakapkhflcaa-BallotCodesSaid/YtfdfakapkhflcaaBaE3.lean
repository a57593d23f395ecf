/- The document's Encode; BallotCodes. -/
import Derived.Test.YtfdfakapkhflcaaBaE2
set_option linter.unusedSimpArgs false
set_option linter.unusedVariables false
set_option linter.unusedSectionVars false
namespace Go.Proofs.Try
open Go Go.Am Go.RowKit Go.Oc
variable [SymE]
section
variable {aw0 aw : AW} {own : List Nat} {ro l L Lr S : List (Nat × Blk)} {E : List PanicEntry → AW → Prop} {v pv rv ev dv : Value} {bs cs : List UInt8} {m : Ms} {mb : Nat} {Q : Value → AW → Prop}
theorem app2 (ho : Ob 5 pv bs L) (hr : Ob 5 rv cs Lr) (hlen : bs.length + cs.length < 2 ^ 44) (M : Hp aw0 own ro aw (Lr ++ (L ++ l))) (h : ∀ v' L' aw', Ob 5 v' (bs ++ cs) L' → Hp aw0 own ro aw' (L' ++ l) → Q v' aw') : app aw 5 1 1 pv rv Q := by
  have M1 : Hp aw0 own ro aw (L ++ (Lr ++ l)) := M.perm (by
    classical exact List.perm_iff_count.2 fun a => by simp only [List.count_append]; ac_rfl)
  refine app_ob (cs := cs) ho M1 ((hr.rs aw _ M fun p hp => List.mem_append.2 (.inl hp)).src) hlen fun v' L' aw' h1 _ M2 => ?_
  have M3 : Hp aw0 own ro aw' (Lr ++ (L' ++ l)) := M2.perm (by
    classical exact List.perm_iff_count.2 fun a => by simp only [List.count_append]; ac_rfl)
  exact h v' L' aw' h1 M3.dropL
abbrev NB (mb : Nat) (m : Ms) (ev dv : Value) : Nat × Blk := (mb, NBk m ev dv)
theorem r_enc_loop {hd : List UInt8} (hh : hd.length ≤ 100) (hm : MsOk m) (he : EsS aw0 own ro S ev m.es) (hdv : Rws aw0 own ro S dv m.data) (o2 : one dv = true) (hS : ∀ p ∈ S, p ∈ l)
    (hQ : ∀ v' L aw', Ob 5 v' (sealB (hd ++ (encEs m.es ++ encB m.data))) L → Hp aw0 own ro aw' (L ++ l) → Q v' aw') :
    ∀ (n i : Nat) (pv : Value) (L : List (Nat × Blk)) (aw : AW), i + n = m.es.length → Ob 5 pv (hd ++ encEs (m.es.take i)) L → Hp aw0 own ro aw (L ++ (NB mb m ev dv :: l)) → S16_2 Q E (n + 1) (P0 mb) pv (i : Int) aw
  | 0, i, pv, L, aw, hi, ho, M => by
    show S16_2s Q E (S16_2 Q E 0) _ _ _ aw
    unfold S16_2s
    refine fldA_x (ldV_x (M.im (At.app .here)) (by repeat constructor) (slen_e he (cnd_0x (decide_eq_false (by omega)) (fldA_x (ldV_x (M.im (At.app .here)) (by repeat constructor) ?_)))))
    have e1 : m.es.take i = m.es := List.take_of_length_le (by omega)
    rw [e1] at ho
    have hl1 := encEs_len hm.ee
    have hes := hm.es
    have hdl := hm.d
    have hbl : (encB m.data).length ≤ 5009 := by
      have := encU_len (n := m.data.length) (by omega)
      simp only [encB, List.length_append]; omega
    refine r_bytes (by omega) M hdv (fun p hp => by simp [hS p hp]) fun rv Lr aw1 h1 M1 => ?_
    refine app2 ho h1 (by simp only [List.length_append]; omega) M1 fun v2 L2 aw2 h2 M2 => ?_
    refine r_seal M2 h2.rs (fun p hp => List.mem_append.2 (.inl hp)) (by simp only [List.length_append]; omega) fun v3 L3 aw3 h3 M3 => ?_
    have M4 : Hp aw0 own ro aw3 (L2 ++ ([NB mb m ev dv] ++ (L3 ++ l))) := M3.perm (by
      classical exact List.perm_iff_count.2 fun a => by simp only [List.count_append, List.count_cons, List.count_nil]; ac_rfl)
    refine hQ v3 L3 aw3 ?_ M4.dropL.dropL
    rw [← List.append_assoc]
    exact h3
  | n + 1, i, pv, L, aw, hi, ho, M => by
    show S16_2s Q E (S16_2 Q E (n + 1)) _ _ _ aw
    unfold S16_2s
    have hlt : i < m.es.length := by omega
    generalize hx : m.es[i] = e
    have hxi : m.es[i]? = some e := by rw [List.getElem?_eq_getElem hlt, hx]
    have hok : EnOk e := hm.ee e (by rw [← hx]; exact List.getElem_mem hlt)
    have hes := hm.es
    have hl1 := encEs_len (l := m.es.take i) fun e he => hm.ee e (List.mem_of_mem_take he)
    have hl2 : (m.es.take i).length ≤ 50 := by rw [List.length_take]; omega
    refine fldA_x (ldV_x (M.im (At.app .here)) (by repeat constructor) (slen_e he (cnd_1x (decide_eq_true (by omega)) (fldA_x (ldV_x (M.im (At.app .here)) (by repeat constructor) ?_)))))
    refine ix_e he rfl hxi fun b o cv hc hone hg => ?_
    obtain ⟨g1, g2, g3, g4⟩ := hg aw _ M (fun p hp => by simp [hS p hp])
    refine ptr_x ⟨_, g1, _, g2, _, g3, _, g4, alc_x M fun xb aw1 M1 => st_x M1 .here (by repeat constructor) rfl rfl (by show (true && (true && (true && (one cv && true)))) = true; rw [hone]; rfl) fun aw2 M2 => ?_⟩
    have M2 : Hp aw0 own ro aw2 (EnB xb e cv :: (L ++ (NB mb m ev dv :: l))) := M2
    have M3 : Hp aw0 own ro aw2 (L ++ (EnB xb e cv :: NB mb m ev dv :: l)) := M2.perm (by
      classical exact List.perm_iff_count.2 fun a => by simp only [List.count_append, List.count_cons]; ac_rfl)
    have u1 := encU_len hok.t
    have u2 := encU_len hok.s
    have u3 := encU_len hok.n
    have hcl := hok.c
    have u4 := encU_len (n := e.cell.length) (by omega)
    refine fldA_x (ldI_x (M3.im (At.app .here)) (by repeat constructor) (r_uint hok.t M3 fun r1 K1 a1 k1 N1 => ?_))
    refine app2 ho k1 (by simp only [List.length_append]; omega) N1 fun p1 L1 b1 h1 O1 => ?_
    refine fldA_x (ldI_x (O1.im (At.app .here)) (by repeat constructor) (r_uint hok.s O1 fun r2 K2 a2 k2 N2 => ?_))
    refine app2 h1 k2 (by simp only [List.length_append]; omega) N2 fun p2 L2 b2 h2 O2 => ?_
    refine fldA_x (ldI_x (O2.im (At.app .here)) (by repeat constructor) (r_uint hok.n O2 fun r3 K3 a3 k3 N3 => ?_))
    refine app2 h2 k3 (by simp only [List.length_append]; omega) N3 fun p3 L3 b3 h3 O3 => ?_
    refine fldA_x (ldV_x (O3.im (At.app .here)) (by repeat constructor) (r_bytes (by omega) O3 hc (fun p hp => by simp [hS p hp]) fun r4 K4 a4 k4 N4 => ?_))
    refine app2 h3 k4 (by simp only [encB, List.length_append]; omega) N4 fun p4 L4 b4 h4 O4 => ?_
    rw [show (i : Int) + 1 = ((i + 1 : Nat) : Int) by omega, i64_nat (by omega)]
    refine r_enc_loop hh hm he hdv o2 hS hQ n (i + 1) p4 L4 b4 (by omega) ?_ (O4.drop (Out.app .here))
    have e1 : encEs (m.es.take (i + 1)) = encEs (m.es.take i) ++ encE e := by
      rw [List.take_add_one, hxi]; simp [encEs]
    rw [e1]
    simpa [encE] using h4
theorem r_encode_x (M : Hp aw0 own ro aw l) (hm : MsOk m) (he : EsS aw0 own ro S ev m.es) (hdv : Rws aw0 own ro S dv m.data) (o1 : one ev = true) (o2 : one dv = true) (hS : ∀ p ∈ S, p ∈ l)
    (hQ : ∀ v' L aw', Ob 5 v' (sealB (encM m)) L → Hp aw0 own ro aw' (L ++ l) → Q v' aw') :
    CallP prog 16 [.agg #[.int .u8 m.kind, .int .i64 m.frm, .int .i64 m.to, .int .u64 m.term, .int .u64 m.index, .int .u64 m.lterm, .int .u64 m.commit, .bool m.ok, ev, dv]] aw sh16 Q E := by
  refine F16_ok _ _ _ _ _ _ _ _ _ _ aw ?_
  unfold S16_0
  refine alc_x M fun mb aw1 M1 => ?_
  have M1 : Hp aw0 own ro aw1 (NB mb m ev dv :: l) := M1
  have hk := hm.k
  have u1 := encU_len (n := m.kind) (by omega)
  have u2 := encU_len (zig_lt hm.f1 hm.f2)
  have u3 := encU_len (zig_lt hm.t1 hm.t2)
  have u4 := encU_len hm.te
  have u5 := encU_len hm.ix
  have u6 := encU_len hm.lt
  have u7 := encU_len hm.cm
  have u8 : (encU (bn1 m.ok)).length ≤ 9 := encU_len (by unfold bn1; split <;> decide)
  refine fldA_x (ldI_x (M1.im .here) (by repeat constructor) ?_)
  rw [u64_nat (n := m.kind) (by omega)]
  refine r_uint (by omega) M1 fun p1 L1 b1 h1 O1 => ?_
  refine fldA_x (ldI_x (O1.im (At.app .here)) (by repeat constructor) (r_int hm.f1 hm.f2 O1 fun r2 K2 a2 k2 N2 => ?_))
  refine app2 h1 k2 (by omega) N2 fun p2 L2 b2 h2 O2 => ?_
  refine fldA_x (ldI_x (O2.im (At.app .here)) (by repeat constructor) (r_int hm.t1 hm.t2 O2 fun r3 K3 a3 k3 N3 => ?_))
  refine app2 h2 k3 (by simp only [List.length_append]; omega) N3 fun p3 L3 b3 h3 O3 => ?_
  refine fldA_x (ldI_x (O3.im (At.app .here)) (by repeat constructor) (r_uint hm.te O3 fun r4 K4 a4 k4 N4 => ?_))
  refine app2 h3 k4 (by simp only [List.length_append]; omega) N4 fun p4 L4 b4 h4 O4 => ?_
  refine fldA_x (ldI_x (O4.im (At.app .here)) (by repeat constructor) (r_uint hm.ix O4 fun r5 K5 a5 k5 N5 => ?_))
  refine app2 h4 k5 (by simp only [List.length_append]; omega) N5 fun p5 L5 b5 h5 O5 => ?_
  refine fldA_x (ldI_x (O5.im (At.app .here)) (by repeat constructor) (r_uint hm.lt O5 fun r6 K6 a6 k6 N6 => ?_))
  refine app2 h5 k6 (by simp only [List.length_append]; omega) N6 fun p6 L6 b6 h6 O6 => ?_
  refine fldA_x (ldI_x (O6.im (At.app .here)) (by repeat constructor) (r_uint hm.cm O6 fun r7 K7 a7 k7 N7 => ?_))
  refine app2 h6 k7 (by simp only [List.length_append]; omega) N7 fun p7 L7 b7 h7 O7 => ?_
  refine fldA_x (ldB_x (O7.im (At.app .here)) (by repeat constructor) ?_)
  have fin : ∀ (aw : AW) (pv : Value) (L : List (Nat × Blk)), Ob 5 pv (encH m) L → Hp aw0 own ro aw (L ++ (NB mb m ev dv :: l)) → S16_1 Q E (P0 mb) pv aw := fun aw pv L ho N => by
    unfold S16_1
    have hes := hm.es
    have hhl := encH_len hm
    have u9 := encU_len (n := m.es.length) (by omega)
    refine fldA_x (ldV_x (N.im (At.app .here)) (by repeat constructor) (slen_e he ?_))
    rw [u64_nat (by omega)]
    refine r_uint (by omega) N fun r9 K9 a9 k9 N9 => ?_
    refine app2 ho k9 (by omega) N9 fun p9 L9 b9 h9 O9 => ⟨m.es.length + 1, ?_⟩
    refine r_enc_loop (hd := encH m ++ encU m.es.length) (by rw [List.length_append]; omega) hm he hdv o2 hS (fun v' L aw' k1 k2 => hQ v' L aw' (by simpa [encM] using k1) k2) m.es.length 0 p9 L9 b9 (by omega) ?_ O9
    simpa [encEs] using h9
  have hok : ∀ b : Bool, m.ok = b → ∀ (aw : AW) (pv : Value) (L : List (Nat × Blk)), Ob 5 pv ((((((encU m.kind ++ encU (zig m.frm)) ++ encU (zig m.to)) ++ encU m.term) ++ encU m.index) ++ encU m.lterm) ++ encU m.commit ++ encU (bn1 b)) L → Hp aw0 own ro aw (L ++ (NB mb m ev dv :: l)) → S16_1 Q E (P0 mb) pv aw := fun b hb aw pv L ho N => by
    subst hb
    exact fin aw pv L (by simpa [encH] using ho) N
  cases hmo : m.ok with
  | true =>
    refine cnd_1x rfl (r_uint (n0 := 1) (by decide) O7 fun r8 K8 a8 k8 N8 => ?_)
    have u81 : (encU 1).length ≤ 9 := encU_len (by decide)
    exact app2 h7 k8 (by simp only [List.length_append]; omega) N8 fun p8 L8 b8 h8 O8 => hok true hmo b8 p8 L8 h8 O8
  | false =>
    refine cnd_0x rfl (r_uint (n0 := 0) (by decide) O7 fun r8 K8 a8 k8 N8 => ?_)
    have u80 : (encU 0).length ≤ 9 := encU_len (by decide)
    exact app2 h7 k8 (by simp only [List.length_append]; omega) N8 fun p8 L8 b8 h8 O8 => hok false hmo b8 p8 L8 h8 O8
end
structure MsIn (m : Ms) : Prop where
  k : m.kind < 256
  f1 : -9223372036854775808 ≤ m.frm
  f2 : m.frm < 9223372036854775808
  t1 : -9223372036854775808 ≤ m.to
  t2 : m.to < 9223372036854775808
  te : m.term < 2 ^ 64
  ix : m.index < 2 ^ 64
  lt : m.lterm < 2 ^ 64
  cm : m.commit < 2 ^ 64
  ee : ∀ e ∈ m.es, e.term < 2 ^ 64 ∧ e.session < 2 ^ 64 ∧ e.number < 2 ^ 64 ∧ e.cell.length < 2 ^ 60
  el : m.es.length < 2 ^ 60
  dl : m.data.length < 2 ^ 60
theorem codes_loop (hA : Awk) {aw0 : AW} {m : Ms} {ev dv : Value} {mb : Nat} (hm : MsIn m) (he : EsS aw0 [] [] [] ev m.es) (hdv : Rws aw0 [] [] [] dv m.data) (o1 : one ev = true) (o2 : one dv = true) (h50 : m.es.length ≤ 50) (hd5 : m.data.length ≤ 5000) :
    ∀ (n i : Nat) (aw : AW), i + n = m.es.length → (∀ e ∈ m.es.take i, e.cell.length ≤ 4000) → Hp aw0 [] [] aw [(mb, MBk m ev dv)] → S5_1 (fun r _ => r = true) (fun _ _ => False) (n + 1) (P0 mb) (i : Int) aw
  | 0, i, aw, hi, hc, M => by
    show S5_1s _ _ (S5_1 _ _ 0) _ _ aw
    unfold S5_1s
    refine fldA_x (ldV_x (M.im .here) (by repeat constructor) (slen_e he (cnd_0x (decide_eq_false (by omega)) ?_)))
    have e1 : m.es.take i = m.es := List.take_of_length_le (by omega)
    rw [e1] at hc
    have hok : MsOk m := ⟨hm.k, hm.f1, hm.f2, hm.t1, hm.t2, hm.te, hm.ix, hm.lt, hm.cm, h50, fun e he => ⟨(hm.ee e he).1, (hm.ee e he).2.1, (hm.ee e he).2.2.1, hc e he⟩, hd5⟩
    have hdec := decA_enc hok
    refine get_ms (m := m) (M.m .here) rfl ?_
    refine encode_x M hok he hdv o1 o2 (fun p hp => by cases hp) fun pv L1 aw1 h1 M1 => ?_
    have hlen : (sealB (encM m)).length < 2 ^ 40 := by
      rw [seal_len]
      have := encM_len hok
      omega
    refine decode_x M1 h1.len (fun _ => h1.rs) (fun p hp => List.mem_append.2 (.inl hp)) hlen fun ev2 dv2 S2 aw2 he2 hd2 o3 o4 M2 => ?_
    rw [hdec] at he2 hd2
    rw [hdec]
    refine alc_x M2 fun b1 aw3 M3 => st_x M3 .here (by repeat constructor) rfl rfl (by simp only [List.all_cons, List.all_nil, o3, o4, Bool.and_true]; rfl) fun aw4 M4 => ?_
    have M4 : Hp aw0 [] [] aw4 ((b1, MBk m ev2 dv2) :: (S2 ++ (L1 ++ [(mb, MBk m ev dv)]))) := M4
    have hL : ∀ {X : List (Nat × Blk)}, ∀ p ∈ L1, p ∈ X ++ ((b1, MBk m ev2 dv2) :: (S2 ++ (L1 ++ [(mb, MBk m ev dv)]))) := fun p hp => by simp [hp]
    refine toS_b (h1.rs aw4 _ M4 (hL (X := []))) ?_
    refine get_ms (m := m) (M4.m (.there (At.app (At.app .here)))) rfl ?_
    refine msg_x (m := m) M4 o1 o2 fun aw5 M5 => ?_
    refine againS_b (h1.rs aw5 _ M5 (hL (X := []))) ?_
    refine r_encode_x (m := m) M5 hok he hdv o1 o2 (fun p hp => by cases hp) fun qv L6 aw6 h6 M6 => ?_
    refine againS_b (h1.rs aw6 _ M6 hL) (toS_b (h6.rs aw6 _ M6 fun p hp => List.mem_append.2 (.inl hp)) (cnd_1x (decide_eq_true rfl) (cnd_1x (decide_eq_true rfl) ?_)))
    refine get_ms (m := m) (M6.m (At.app .here)) rfl ?_
    have hi := M6.im (At.app (.there (At.app (At.app .here))))
    refine ptr_x (gI_x hi (by repeat constructor) (gI_x hi (by repeat constructor) (gI_x hi (by repeat constructor) (gI_x hi (by repeat constructor) (gI_x hi (by repeat constructor) (gI_x hi (by repeat constructor) (gI_x hi (by repeat constructor) (gB_x hi (by repeat constructor) (gV_x hi (by repeat constructor) (gV_x hi (by repeat constructor) ?_))))))))))
    refine msg_x (m := m) M6 o3 o4 fun aw7 M7 => ?_
    have hj := M7.im (At.app (.there (At.app (At.app .here))))
    refine get_x hj (by repeat constructor) (get_x hj (by repeat constructor) (get_x hj (by repeat constructor) (get_x hj (by repeat constructor) (get_x hj (by repeat constructor) (get_x hj (by repeat constructor) (get_x hj (by repeat constructor) (get_x hj (by repeat constructor) (get_x hj (by repeat constructor) (get_x hj (by repeat constructor) ?_)))))))))
    refine msg_x (m := m) M7 o1 o2 fun aw8 M8 => ?_
    exact same_x (S := S2) (m := m) M8 he2 (he.more fun p hp => by cases hp) hd2.w (hdv.more fun p hp => by cases hp) (fun p hp => by simp [hp]) hm.el fun _ => rfl
  | n + 1, i, aw, hi, hc, M => by
    show S5_1s _ _ (S5_1 _ _ (n + 1)) _ _ aw
    unfold S5_1s
    have hlt : i < m.es.length := by omega
    generalize hx : m.es[i] = e
    have hxi : m.es[i]? = some e := by rw [List.getElem?_eq_getElem hlt, hx]
    have hel := (hm.ee e (by rw [← hx]; exact List.getElem_mem hlt)).2.2.2
    refine fldA_x (ldV_x (M.im .here) (by repeat constructor) (slen_e he (cnd_1x (decide_eq_true (by omega)) (fldA_x (ldV_x (M.im .here) (by repeat constructor) ?_)))))
    refine ix_e he rfl hxi fun b o cv hcv hone hg => ?_
    obtain ⟨g1, g2, g3, g4⟩ := hg aw _ M (fun p hp => by cases hp)
    refine fldA_x ⟨b, o + 3, _, rfl, g4, slen_w (hcv aw _ M fun p hp => by cases hp) ?_⟩
    by_cases h4 : 4000 < e.cell.length
    · exact cnd_1x (decide_eq_true (by omega)) rfl
    · refine cnd_0x (decide_eq_false (by omega)) ?_
      rw [show (i : Int) + 1 = ((i + 1 : Nat) : Int) by omega, i64_nat (by omega)]
      refine codes_loop hA hm he hdv o1 o2 h50 hd5 n (i + 1) aw (by omega) (fun x hx' => ?_) M
      rw [List.take_add_one, hxi] at hx'
      rcases List.mem_append.1 hx' with h | h
      · exact hc x h
      · simp only [Option.toList_some, List.mem_singleton] at h
        subst h; omega
theorem codes_x (hA : Awk) {aw0 : AW} {m : Ms} {ev dv : Value} (hG : prog.globals.size ≤ aw0.next) (hm : MsIn m) (he : EsS aw0 [] [] [] ev m.es) (hv : ∃ q c, dv = .slice q m.data.length c) (hdv : Rws aw0 [] [] [] dv m.data) (o1 : one ev = true) (o2 : one dv = true) :
    CallP prog 5 [.agg #[.int .u8 m.kind, .int .i64 m.frm, .int .i64 m.to, .int .u64 m.term, .int .u64 m.index, .int .u64 m.lterm, .int .u64 m.commit, .bool m.ok, ev, dv]] aw0 sh5 (fun r _ => r = true) (fun _ _ => False) := by
  refine F5_ok _ _ _ _ _ _ _ _ _ _ aw0 ?_
  unfold S5_0
  refine alc_x (hp0 aw0) fun mb aw1 M1 => ?_
  have M1 : Hp aw0 [] [] aw1 [(mb, MBk m ev dv)] := M1
  have hG1 : prog.globals.size ≤ aw1.next := Nat.le_trans hG M1.le
  refine hA _ _ _ hG1 (cnd_0x rfl (fldA_x (ldV_x (M1.im .here) (by repeat constructor) (slen_e he ?_))))
  by_cases h50 : 50 < m.es.length
  · exact cnd_1x (decide_eq_true (by omega)) (hA _ _ _ hG1 rfl)
  refine cnd_0x (decide_eq_false (by omega)) (fldA_x (ldV_x (M1.im .here) (by repeat constructor) (slen_w (hdv aw1 _ M1 fun p hp => by cases hp) ?_)))
  by_cases hd5 : 5000 < m.data.length
  · exact cnd_1x (decide_eq_true (by omega)) (hA _ _ _ hG1 rfl)
  refine cnd_0x (decide_eq_false (by omega)) ⟨m.es.length + 1, ?_⟩
  exact codes_loop hA hm he hdv o1 o2 (by omega) (by omega) m.es.length 0 aw1 (by omega) (fun e he => by simp at he) M1
end Go.Proofs.Try
