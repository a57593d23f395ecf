/- A reader's texts; two outcomes alike. -/
import Derived.Test.YtfgihmgeplcfoaaGreatDoorNcA
import Derived.Test.YtfgihmgeplcfoaaGreatDoorNaD
set_option linter.unusedSimpArgs false
set_option linter.unusedVariables false
set_option linter.unusedSectionVars false
namespace Go.Proofs.Tryz
open Go Go.Am Go.RowKit Go.Oc
variable [SymE]
section
variable {aw0 aw : AW} {own : List Nat} {ro l L S : List (Nat × Blk)} {E : List PanicEntry → AW → Prop} {v pv : Value} {bs cs : List UInt8} {rb : Nat} {st : Oc.St} {bad : Bool}
  {e a : Int} {r u : List UInt8} {bv mv bv2 mv2 : Value} {binds : List Bnd} {moves : List (Bool × Int)} {oa ob : Nat}
theorem text_x {Q : ByteArray → AW → Prop} {most : Nat} (hm : most < 2 ^ 62) (M : Hp aw0 own ro aw ((rb, RBk pv bad) :: l)) (hr : RdS aw0 own ro S st pv bad) (hS : ∀ p ∈ S, p ∈ l)
    (h : ∀ pv' bad' aw', RdS aw0 own ro S (rB most st).2 pv' bad' → Hp aw0 own ro aw' ((rb, RBk pv' bad') :: l) → Q (BA (rB most st).1) aw') : CallP prog 19 [P0 rb, .int .i64 (most : Int)] aw sh19 Q E := by
  refine F19_ok _ _ aw ?_
  unfold S19_0
  refine bytes_x hm M hr hS fun v L pv' bad' aw' h1 h2 M1 => ?_
  have M2 : Hp aw0 own ro aw' (L ++ ((rb, RBk pv' bad') :: l)) := M1.perm (by classical exact List.perm_iff_count.2 fun a => by simp only [List.count_append, List.count_cons]; omega)
  exact toS_w (.of (h1.rs _ _ M2 fun p hp => List.mem_append.2 (.inl hp))) (h pv' bad' aw' h2 M2.dropL)
theorem int_void {Q : Int → AW → Prop} {q : Option Addr} {c : Nat} (M : Hp aw0 own ro aw ((rb, RBk (.slice q 0 c) false) :: l)) (h : ∀ aw', Hp aw0 own ro aw' ((rb, RBk (.slice q 0 c) true) :: l) → Q 0 aw') : CallP prog 18 [P0 rb] aw sh18 Q E := by
  refine F18_ok _ aw ?_
  unfold S18_0
  refine F33_ok _ aw ?_
  unfold S33_0
  refine nilB_x rfl rfl (cnd_0x rfl (nck_x (fldA_x (ldB_x (M.im .here) (by repeat constructor) (cnd_0x rfl (nck_x (fldA_x (ldV_x (M.im .here) (by repeat constructor) (slen_x ?_)))))))))
  unfold S33_1
  exact cnd_1x rfl (fail_x M fun aw' M' => h aw' M')
theorem same_m {Q : Bool → AW → Prop} (hn : moves.length < 2 ^ 60) (hM1 : Fs aw0 own ro S 2 mv moves.length (mcs moves)) (hM2 : Fs aw0 own ro S 2 mv2 moves.length (mcs moves)) (hS : ∀ p ∈ S, p ∈ l) (M : Hp aw0 own ro aw ((ob, OBk e a r bv2 u mv2) :: (oa, OBk e a r bv u mv) :: l))
    (hQ : Q true aw) : ∀ (todo done : List (Bool × Int)), moves = done ++ todo → S9_2 Q E (todo.length + 1) (P0 oa) (P0 ob) (done.length : Int) aw
  | [], done, hd => by
    show S9_2s Q E (S9_2 Q E 0) _ _ _ aw
    unfold S9_2s
    have hlen : moves.length = done.length := by rw [hd]; simp
    exact fldA_x (ldV_x (M.im (.there .here)) (by repeat constructor) (slen_f hM1 (cnd_0x (by rw [hlen]; simp) hQ)))
  | x :: todo, done, hd => by
    show S9_2s Q E (S9_2 Q E (todo.length + 1)) _ _ _ aw
    unfold S9_2s
    have hlen : moves.length = done.length + (todo.length + 1) := by rw [hd]; simp
    have hx := nth_mid hd
    have hS' : ∀ p ∈ S, p ∈ ((ob, OBk e a r bv2 u mv2) :: (oa, OBk e a r bv u mv) :: l) := fun p hp => List.mem_cons_of_mem _ (List.mem_cons_of_mem _ (hS p hp))
    refine fldA_x (ldV_x (M.im (.there .here)) (by repeat constructor) (slen_f hM1 (cnd_1x (by rw [hlen]; simp; omega) ?_)))
    refine fldA_x (ldV_x (M.im (.there .here)) (by repeat constructor) (ix_f hM1 rfl (by omega) fun b o hg => ptr_x ⟨_, hg aw _ M hS' 0 _ (mcs_get hx (k := 0) rfl), ⟨_, hg aw _ M hS' 1 _ (mcs_get hx (k := 1) rfl), ?_⟩⟩))
    refine fldA_x (ldV_x (M.im .here) (by repeat constructor) (ix_f hM2 rfl (by omega) fun b o hg => ptr_x ⟨_, hg aw _ M hS' 0 _ (mcs_get hx (k := 0) rfl), ⟨_, hg aw _ M hS' 1 _ (mcs_get hx (k := 1) rfl), ?_⟩⟩))
    refine cnd_0x (by simp) ?_
    rw [i64_s (by omega)]
    have := same_m hn hM1 hM2 hS M hQ todo (done ++ [x]) (by rw [hd]; simp)
    rw [show (done ++ [x]).length = done.length + 1 by simp] at this
    exact this
theorem same_b {Q : Bool → AW → Prop} (hn : moves.length < 2 ^ 60) (hnb : binds.length < 2 ^ 60) (hB1 : Fs aw0 own ro S 3 bv binds.length (bcs binds)) (hB2 : Fs aw0 own ro S 3 bv2 binds.length (bcs binds)) (hM1 : Fs aw0 own ro S 2 mv moves.length (mcs moves)) (hM2 : Fs aw0 own ro S 2 mv2 moves.length (mcs moves)) (hS : ∀ p ∈ S, p ∈ l)
    (M : Hp aw0 own ro aw ((ob, OBk e a r bv2 u mv2) :: (oa, OBk e a r bv u mv) :: l)) (hQ : Q true aw) : ∀ (todo done : List Bnd), binds = done ++ todo → S9_1 Q E (todo.length + 1) (P0 oa) (P0 ob) (done.length : Int) aw
  | [], done, hd => by
    show S9_1s Q E (S9_1 Q E 0) _ _ _ aw
    unfold S9_1s
    have hlen : binds.length = done.length := by rw [hd]; simp
    exact fldA_x (ldV_x (M.im (.there .here)) (by repeat constructor) (slen_f hB1 (cnd_0x (by rw [hlen]; simp) ⟨moves.length + 1, same_m hn hM1 hM2 hS M hQ moves [] rfl⟩)))
  | x :: todo, done, hd => by
    show S9_1s Q E (S9_1 Q E (todo.length + 1)) _ _ _ aw
    unfold S9_1s
    have hlen : binds.length = done.length + (todo.length + 1) := by rw [hd]; simp
    have hx := nth_mid hd
    have hS' : ∀ p ∈ S, p ∈ ((ob, OBk e a r bv2 u mv2) :: (oa, OBk e a r bv u mv) :: l) := fun p hp => List.mem_cons_of_mem _ (List.mem_cons_of_mem _ (hS p hp))
    refine fldA_x (ldV_x (M.im (.there .here)) (by repeat constructor) (slen_f hB1 (cnd_1x (by rw [hlen]; simp; omega) ?_)))
    refine fldA_x (ldV_x (M.im (.there .here)) (by repeat constructor) (ix_f hB1 rfl (by omega) fun b o hg => ptr_x ⟨_, hg aw _ M hS' 0 _ (bcs_get hx (k := 0) rfl), ⟨_, hg aw _ M hS' 1 _ (bcs_get hx (k := 1) rfl), ⟨_, hg aw _ M hS' 2 _ (bcs_get hx (k := 2) rfl), ?_⟩⟩⟩))
    refine fldA_x (ldV_x (M.im .here) (by repeat constructor) (ix_f hB2 rfl (by omega) fun b o hg => ptr_x ⟨_, hg aw _ M hS' 0 _ (bcs_get hx (k := 0) rfl), ⟨_, hg aw _ M hS' 1 _ (bcs_get hx (k := 1) rfl), ⟨_, hg aw _ M hS' 2 _ (bcs_get hx (k := 2) rfl), ?_⟩⟩⟩))
    refine cnd_0x (by simp) ?_
    rw [i64_s (by omega)]
    have := same_b hn hnb hB1 hB2 hM1 hM2 hS M hQ todo (done ++ [x]) (by rw [hd]; simp)
    rw [show (done ++ [x]).length = done.length + 1 by simp] at this
    exact this
theorem same_x {Q : Bool → AW → Prop} (hn : moves.length < 2 ^ 60) (hnb : binds.length < 2 ^ 60) (hB1 : Fs aw0 own ro S 3 bv binds.length (bcs binds)) (hB2 : Fs aw0 own ro S 3 bv2 binds.length (bcs binds)) (hM1 : Fs aw0 own ro S 2 mv moves.length (mcs moves)) (hM2 : Fs aw0 own ro S 2 mv2 moves.length (mcs moves)) (hS : ∀ p ∈ S, p ∈ l)
    (M : Hp aw0 own ro aw l) (hQ : ∀ aw', Hp aw0 own ro aw' l → Q true aw') : CallP prog 9 [.agg #[.int .i64 e, .int .i64 a, .string (BA r), bv, .string (BA u), mv], .agg #[.int .i64 e, .int .i64 a, .string (BA r), bv2, .string (BA u), mv2]] aw sh9 Q E := by
  refine F9_ok _ _ _ _ _ _ _ _ _ _ _ _ aw ?_
  unfold S9_0
  refine alc_x M fun oa aw1 M1 => alc_x M1 fun ob aw2 M2 => ?_
  have M2 : Hp aw0 own ro aw2 ((ob, OBk e a r bv2 u mv2) :: (oa, OBk e a r bv u mv) :: l) := M2
  refine fldA_x (ldI_x (M2.im (.there .here)) (by repeat constructor) (fldA_x (ldI_x (M2.im .here) (by repeat constructor) (cnd_0x (by simp) ?_))))
  refine fldA_x (ldI_x (M2.im (.there .here)) (by repeat constructor) (fldA_x (ldI_x (M2.im .here) (by repeat constructor) (cnd_0x (by simp) ?_))))
  refine fldA_x (ldS_x (M2.im (.there .here)) (by repeat constructor) (fldA_x (ldS_x (M2.im .here) (by repeat constructor) (cnd_0x (by simp) ?_))))
  refine fldA_x (ldS_x (M2.im (.there .here)) (by repeat constructor) (fldA_x (ldS_x (M2.im .here) (by repeat constructor) (cnd_0x (by simp) ?_))))
  refine fldA_x (ldV_x (M2.im (.there .here)) (by repeat constructor) (slen_f hB1 (fldA_x (ldV_x (M2.im .here) (by repeat constructor) (slen_f hB2 (cnd_0x (by simp) ?_))))))
  refine fldA_x (ldV_x (M2.im (.there .here)) (by repeat constructor) (slen_f hM1 (fldA_x (ldV_x (M2.im .here) (by repeat constructor) (slen_f hM2 (cnd_0x (by simp) ⟨binds.length + 1, ?_⟩))))))
  exact same_b hn hnb hB1 hB2 hM1 hM2 hS M2 (hQ _ ((M2.drop .here).drop .here)) binds [] rfl
end
end Go.Proofs.Tryz
