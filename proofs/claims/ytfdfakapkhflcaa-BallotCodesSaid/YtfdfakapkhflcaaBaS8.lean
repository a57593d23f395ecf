/- Messages compared; awake. -/
import Derived.Test.YtfdfakapkhflcaaBaS6
import Derived.Test.YtfdfakapkhflcaaL3
set_option linter.unusedSimpArgs false
set_option linter.unusedVariables false
set_option linter.unusedSectionVars false
namespace Go.Proofs.Try
open Go Go.Am Go.RowKit Go.Oc
variable [SymE]
abbrev MsU (m : Ms) (ev dv : Value) : Int × Int × Int × Int × Int × Int × Int × Bool × Value × Value := ((m.kind : Int), m.frm, m.to, (m.term : Int), (m.index : Int), (m.lterm : Int), (m.commit : Int), m.ok, ev, dv)
section
variable {aw0 aw : AW} {own : List Nat} {ro l S : List (Nat × Blk)} {E : List PanicEntry → AW → Prop} {v av bv ev ev2 dv dv2 : Value} {bs : List UInt8} {m : Ms} {es : List En}
theorem entry_x {Q : Bool → AW → Prop} {e : En} (M : Hp aw0 own ro aw l) (ha : Rws aw0 own ro S av e.cell) (hb : Rws aw0 own ro S bv e.cell) (hS : ∀ p ∈ S, p ∈ l) (hQ : ∀ aw', Hp aw0 own ro aw' l → Q true aw') :
    CallP prog 64 [.agg #[.int .u64 e.term, .int .u64 e.session, .int .u64 e.number, av], .agg #[.int .u64 e.term, .int .u64 e.session, .int .u64 e.number, bv]] aw sh64 Q E := by
  refine F64_ok _ _ _ _ _ _ _ _ aw ?_
  unfold S64_0
  refine alc_x M fun p1 aw1 M1 => alc_x M1 fun p5 aw6 M6 => ?_
  have hS6 : ∀ {x y : Nat × Blk}, ∀ p ∈ S, p ∈ x :: y :: l := fun p hp => List.mem_cons_of_mem _ (List.mem_cons_of_mem _ (hS p hp))
  refine fldA_x (ldI_x (M6.im (.there .here)) (by repeat constructor) (fldA_x (ldI_x (M6.im .here) (by repeat constructor) (cnd_1x (decide_eq_true rfl) ?_))))
  refine fldA_x (ldI_x (M6.im (.there .here)) (by repeat constructor) (fldA_x (ldI_x (M6.im .here) (by repeat constructor) (cnd_1x (decide_eq_true rfl) ?_))))
  refine fldA_x (ldI_x (M6.im (.there .here)) (by repeat constructor) (fldA_x (ldI_x (M6.im .here) (by repeat constructor) (cnd_1x (decide_eq_true rfl) ?_))))
  refine fldA_x (ldV_x (M6.im (.there .here)) (by repeat constructor) (toS_w (ha aw6 _ M6 hS6) ?_))
  refine fldA_x (ldV_x (M6.im .here) (by repeat constructor) (toS_w (hb aw6 _ M6 hS6) ?_))
  rw [decide_eq_true rfl]
  exact hQ aw6 ((M6.drop .here).drop .here)
theorem entries_loop {Q : Bool → AW → Prop} (ha : EsS aw0 own ro S av es) (hb : EsS aw0 own ro S bv es) (hS : ∀ p ∈ S, p ∈ l) (hlen : es.length < 2 ^ 60) (hQ : ∀ aw', Hp aw0 own ro aw' l → Q true aw') :
    ∀ (n i : Nat) (aw : AW), i + n = es.length → Hp aw0 own ro aw l → S45_1 Q E (n + 1) av bv (i : Int) aw
  | 0, i, aw, hi, M => by
    show S45_1s Q E (S45_1 Q E 0) _ _ _ aw
    unfold S45_1s
    exact slen_e ha (cnd_0x (decide_eq_false (by omega)) (hQ aw M))
  | n + 1, i, aw, hi, M => by
    show S45_1s Q E (S45_1 Q E (n + 1)) _ _ _ aw
    unfold S45_1s
    have hlt : i < es.length := by omega
    refine slen_e ha (cnd_1x (decide_eq_true (by omega)) ?_)
    refine ix_e ha rfl (List.getElem?_eq_getElem hlt) fun b o cv hc ho hg => ?_
    obtain ⟨g1, g2, g3, g4⟩ := hg aw l M hS
    refine ptr_x ⟨_, g1, _, g2, _, g3, _, g4, ?_⟩
    refine ix_e hb rfl (List.getElem?_eq_getElem hlt) fun b2 o2 cv2 hc2 ho2 hg2 => ?_
    obtain ⟨k1, k2, k3, k4⟩ := hg2 aw l M hS
    refine ptr_x ⟨_, k1, _, k2, _, k3, _, k4, ?_⟩
    refine entry_x M hc hc2 hS fun aw' M' => cnd_0x rfl ?_
    rw [show (i : Int) + 1 = ((i + 1 : Nat) : Int) by omega, i64_nat (by omega)]
    exact entries_loop ha hb hS hlen hQ n (i + 1) aw' (by omega) M'
theorem entries_x {Q : Bool → AW → Prop} (M : Hp aw0 own ro aw l) (ha : EsS aw0 own ro S av es) (hb : EsS aw0 own ro S bv es) (hS : ∀ p ∈ S, p ∈ l) (hlen : es.length < 2 ^ 60) (hQ : ∀ aw', Hp aw0 own ro aw' l → Q true aw') : CallP prog 45 [av, bv] aw sh45 Q E := by
  refine F45_ok _ _ aw ?_
  unfold S45_0
  exact slen_e ha (slen_e hb (cnd_0x (by simp) ⟨es.length + 1, entries_loop ha hb hS hlen hQ es.length 0 aw (by omega) M⟩))
theorem msg_x {Q : (Int × Int × Int × Int × Int × Int × Int × Bool × Value × Value) → AW → Prop} (M : Hp aw0 own ro aw l) (h1 : one ev = true) (h2 : one dv = true) (hQ : ∀ aw', Hp aw0 own ro aw' l → Q (MsU m ev dv) aw') :
    CallP prog 14 [.agg #[.int .u8 m.kind, .int .i64 m.frm, .int .i64 m.to, .int .u64 m.term, .int .u64 m.index, .int .u64 m.lterm, .int .u64 m.commit, .bool m.ok, ev, dv]] aw sh14 Q E := by
  refine F14_ok _ _ _ _ _ _ _ _ _ _ aw ?_
  unfold S14_0
  refine alc_x M fun p1 aw1 M1 => alc_x M1 fun p5 aw6 M6 => ?_
  refine get_ms (m := m) (ev := ev) (dv := dv) (M6.m (.there .here)) rfl ?_
  refine st_x M6 .here (by repeat constructor) rfl rfl (by simp only [MsC, List.all_cons, List.all_nil, h1, h2, Bool.and_true]; rfl) fun aw7 M7 => ?_
  refine get_ms (m := m) (ev := ev) (dv := dv) (M7.m .here) rfl ?_
  exact hQ aw7 ((M7.drop .here).drop .here)
theorem same_x {Q : Bool → AW → Prop} (M : Hp aw0 own ro aw l) (he : EsS aw0 own ro S ev m.es) (he2 : EsS aw0 own ro S ev2 m.es) (hd : Rws aw0 own ro S dv m.data) (hd2 : Rws aw0 own ro S dv2 m.data) (hS : ∀ p ∈ S, p ∈ l) (hlen : m.es.length < 2 ^ 60) (hQ : ∀ aw', Q true aw') :
    CallP prog 13 [.agg #[.int .u8 m.kind, .int .i64 m.frm, .int .i64 m.to, .int .u64 m.term, .int .u64 m.index, .int .u64 m.lterm, .int .u64 m.commit, .bool m.ok, ev, dv], .agg #[.int .u8 m.kind, .int .i64 m.frm, .int .i64 m.to, .int .u64 m.term, .int .u64 m.index, .int .u64 m.lterm, .int .u64 m.commit, .bool m.ok, ev2, dv2]] aw sh13 Q E := by
  refine F13_ok _ _ _ _ _ _ _ _ _ _ _ _ _ _ _ _ _ _ _ _ aw ?_
  unfold S13_0
  refine alc_x M fun p1 aw1 M1 => alc_x M1 fun p5 aw6 M6 => ?_
  have hS6 : ∀ {x y : Nat × Blk}, ∀ p ∈ S, p ∈ x :: y :: l := fun p hp => List.mem_cons_of_mem _ (List.mem_cons_of_mem _ (hS p hp))
  refine fldA_x (ldI_x (M6.im (.there .here)) (by repeat constructor) (fldA_x (ldI_x (M6.im .here) (by repeat constructor) (cnd_1x (decide_eq_true rfl) ?_))))
  refine fldA_x (ldI_x (M6.im (.there .here)) (by repeat constructor) (fldA_x (ldI_x (M6.im .here) (by repeat constructor) (cnd_1x (decide_eq_true rfl) ?_))))
  refine fldA_x (ldI_x (M6.im (.there .here)) (by repeat constructor) (fldA_x (ldI_x (M6.im .here) (by repeat constructor) (cnd_1x (decide_eq_true rfl) ?_))))
  refine fldA_x (ldI_x (M6.im (.there .here)) (by repeat constructor) (fldA_x (ldI_x (M6.im .here) (by repeat constructor) (cnd_1x (decide_eq_true rfl) ?_))))
  refine fldA_x (ldI_x (M6.im (.there .here)) (by repeat constructor) (fldA_x (ldI_x (M6.im .here) (by repeat constructor) (cnd_1x (decide_eq_true rfl) ?_))))
  refine fldA_x (ldI_x (M6.im (.there .here)) (by repeat constructor) (fldA_x (ldI_x (M6.im .here) (by repeat constructor) (cnd_1x (decide_eq_true rfl) ?_))))
  refine fldA_x (ldI_x (M6.im (.there .here)) (by repeat constructor) (fldA_x (ldI_x (M6.im .here) (by repeat constructor) (cnd_1x (decide_eq_true rfl) ?_))))
  refine fldA_x (ldB_x (M6.im (.there .here)) (by repeat constructor) (fldA_x (ldB_x (M6.im .here) (by repeat constructor) (cnd_1x (by simp) ?_))))
  refine fldA_x (ldV_x (M6.im (.there .here)) (by repeat constructor) (fldA_x (ldV_x (M6.im .here) (by repeat constructor) ?_)))
  refine entries_x M6 he he2 hS6 hlen fun aw7 M7 => cnd_1x rfl ?_
  refine fldA_x (ldV_x (M7.im (.there .here)) (by repeat constructor) (toS_w (hd aw7 _ M7 hS6) ?_))
  refine fldA_x (ldV_x (M7.im .here) (by repeat constructor) (toS_w (hd2 aw7 _ M7 hS6) ?_))
  rw [decide_eq_true rfl]
  exact hQ aw7
end
def Awk : Prop := ∀ (Q : Bool → AW → Prop) (E : List PanicEntry → AW → Prop) (aw : AW), prog.globals.size ≤ aw.next → Q true aw → CallP prog 7 [] aw sh7 Q E
theorem hp0 (aw : AW) : Hp aw [] [] aw [] := ⟨List.nodup_nil, (fun _ h => by cases h), (fun _ h => by cases h), Nat.le_refl _, (fun _ _ _ => rfl), (fun _ h => by cases h)⟩
theorem decA_es (bs : List UInt8) : (decA bs).1.es.length < 2 ^ 60 := by
  unfold decA decZ
  split
  · show 0 < _; decide
  · split
    · show (sE _).1.length < _
      have h1 := decEs_len (rUp 65536 (s8 (bs.take (bs.length - 4)))).1 (s9 (bs.take (bs.length - 4)))
      have h2 := rUp_le 65536 (s8 (bs.take (bs.length - 4)))
      unfold sE
      omega
    · show 0 < _; decide
end Go.Proofs.Try
