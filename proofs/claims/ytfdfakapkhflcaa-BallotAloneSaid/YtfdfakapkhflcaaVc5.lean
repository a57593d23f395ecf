/- ballot: a leader's next entry, where nobody else is. -/
import Derived.Test.YtfdfakapkhflcaaVc4
set_option linter.unusedSimpArgs false
set_option linter.unusedVariables false
set_option linter.unusedSectionVars false
set_option maxRecDepth 100000
namespace Go.Proofs.Try
open Go Go.Am Go.RowKit Go.Oc
variable [SymE]
set_option maxHeartbeats 1000000
section
variable {aw0 aw : AW} {own : List Nat} {ro l S Sc : List (Nat × Blk)} {pb mb : Nat} {s : Sv} {out : Value} {es : List En} {E : List PanicEntry → AW → Prop}
theorem add_x {Q : Unit → AW → Prop} {c tm ses num : Nat} {cv : Value} {cell : List UInt8} {m0 : Int} (hl : EsS aw0 own ro S s.lv es) (hcap : Cap s.lv es.length) (ho : s.one) (hN : s.N = 1) (hs : s.Self = 0) (hmv : s.mv = .slice (some ⟨mb, 0, none⟩) 1 c) (hb : 0 ≤ s.Base) (hbe : s.Base < 2 ^ 60) (hes : es.length < 2 ^ 29) (ht : s.Term = (tm : Int))
    (hcv : Rws aw0 own ro Sc cv cell) (hco : Go.Am.one cv = true) (hcl : cell.length < 2 ^ 44)
    (M : Hp aw0 own ro aw ((pb, PB s out) :: (mb, YB [m0]) :: l)) (hS : ∀ p ∈ S, p ∈ l) (hSc : ∀ p ∈ Sc, p ∈ l)
    (hQ : ∀ lv' Ln aw', EsS aw0 own ro (Ln ++ S) lv' (es ++ [⟨tm, ses, num, cell⟩]) → Cap lv' (es ++ [(⟨tm, ses, num, cell⟩ : En)]).length → Go.Am.one lv' = true →
      Hp aw0 own ro aw' ((pb, PB { s with lv := lv', Commit := cm { s with lv := lv' } (es ++ [⟨tm, ses, num, cell⟩]) (s.Base + (es.length + 1 : Nat)) } out) :: (mb, YB [s.Base + (es.length + 1 : Nat)]) :: (Ln ++ l)) → Q () aw') :
    CallP prog 31 [Pt pb, .agg #[.int .u64 0, .int .u64 (ses : Int), .int .u64 (num : Int), cv]] aw sh31 Q E := by
  refine F31_ok _ _ _ _ _ aw ?_
  unfold S31_0
  refine alc_x M fun xb aw1 M1 => ?_
  refine nck_x (fldA_x (fldA_x (ldI_x (M1.im (.there .here)) (by repeat constructor) (fldA_x ?_))))
  refine st_x M1 .here (by repeat constructor) rfl rfl rfl fun aw2 M2 => ?_
  refine fldA_x (ldV_x (M2.im .here) (by repeat constructor) ?_)
  refine clone57_x hcv M2 (fun p hp => List.mem_cons_of_mem _ (List.mem_cons_of_mem _ (List.mem_cons_of_mem _ (hSc p hp)))) hcl fun v' Lc aw3 hv' hvo M3 => ?_
  have M3 : Hp aw0 own ro aw3 (Lc ++ ((xb, ⟨[.int .u64 s.Term, .int .u64 (ses : Int), .int .u64 (num : Int), cv], 40, 0, true, 0⟩) :: (pb, PB s out) :: (mb, YB [m0]) :: l)) := M3
  have M4 : Hp aw0 own ro aw3 ((xb, ⟨[.int .u64 s.Term, .int .u64 (ses : Int), .int .u64 (num : Int), cv], 40, 0, true, 0⟩) :: (pb, PB s out) :: (mb, YB [m0]) :: (Lc ++ l)) := M3.perm (by
    classical exact List.perm_iff_count.2 fun a => by simp only [List.count_append, List.count_cons]; omega)
  refine fldA_x (st_x M4 .here (by repeat constructor) rfl rfl (by simp [hvo]) fun aw4 M5 => ?_)
  obtain ⟨q, cc, hq⟩ := hl.len
  have hsl : ∀ K : Int → Prop, K (es.length : Int) → slen s.lv K := fun K h => by rw [hq]; exact slen_x h
  refine nck_x (fldA_x (fldA_x (ldV_x (M5.im (.there .here)) (by repeat constructor) (nck_x (fldA_x (fldA_x (ldV_x (M5.im (.there .here)) (by repeat constructor) (hsl _ ?_))))))))
  refine nck_x (fldA_x (fldA_x (ldV_x (M5.im (.there .here)) (by repeat constructor) (hsl _ ?_))))
  obtain ⟨v2, hcut, hpush⟩ := push3 hl hcap (by omega)
  refine ⟨v2, hcut, ?_⟩
  refine ptr_x (gI_x (M5.im .here) (by repeat constructor) (gI_x (M5.im .here) (by repeat constructor) (gI_x (M5.im .here) (by repeat constructor) (gV_x (M5.im .here) (by repeat constructor) ?_))))
  refine alcS_x M5 fun yb aw5 M6 => ?_
  refine again_x (M6.im (.there (.there .here))) (by repeat constructor) (again_x (M6.im (.there (.there .here))) (by repeat constructor) (again_x (M6.im (.there (.there .here))) (by repeat constructor) ?_))
  have hyb : At ((yb, (⟨[.int .u64 s.Term, .int .u64 (ses : Int), .int .u64 (num : Int), v'], 40, 4, true, 0⟩ : Blk)) :: (xb, ⟨[.int .u64 s.Term, .int .u64 (ses : Int), .int .u64 (num : Int), v'], 40, 0, true, 0⟩) :: (pb, PB s out) :: (mb, YB [m0]) :: (Lc ++ l)) yb ⟨[.int .u64 (tm : Int), .int .u64 (ses : Int), .int .u64 (num : Int), v'], 40, 4, true, 0⟩ := by rw [← ht]; exact .here
  refine hpush aw5 _ yb ⟨tm, ses, num, cell⟩ v' _ M6 (fun p hp => List.mem_cons_of_mem _ (List.mem_cons_of_mem _ (List.mem_cons_of_mem _ (List.mem_cons_of_mem _ (List.mem_append_right _ (hS p hp)))))) hyb fun vs nb aw6 hvs M7 => ?_
  let NB : Blk := ⟨vs ++ [.int .u64 (tm : Int), .int .u64 (ses : Int), .int .u64 (num : Int), v'], 40, 4, true, 0⟩
  let lv' : Value := .slice (some ⟨nb, 0, none⟩) (es.length + 1) UNK
  have M7 : Hp aw0 own ro aw6 ((nb, NB) :: (yb, ⟨[.int .u64 s.Term, .int .u64 (ses : Int), .int .u64 (num : Int), v'], 40, 4, true, 0⟩) :: (xb, ⟨[.int .u64 s.Term, .int .u64 (ses : Int), .int .u64 (num : Int), v'], 40, 0, true, 0⟩) :: (pb, PB s out) :: (mb, YB [m0]) :: (Lc ++ l)) := M7
  have M8 : Hp aw0 own ro aw6 ((pb, PB s out) :: (mb, YB [m0]) :: (((nb, NB) :: Lc) ++ l)) := ((M7.drop (.there .here)).drop (.there .here)).perm (by
    classical exact List.perm_iff_count.2 fun a => by simp only [List.count_append, List.count_cons]; omega)
  refine nck_x (fldA_x (fldA_x (st_x M8 .here (by repeat constructor) rfl rfl rfl fun aw7 M9 => ?_)))
  let s1 : Sv := { s with lv := lv' }
  have M9 : Hp aw0 own ro aw7 ((pb, PB s1 out) :: (mb, YB [m0]) :: (((nb, NB) :: Lc) ++ l)) := M9
  have hl1 : EsS aw0 own ro (((nb, NB) :: Lc) ++ S) lv' (es ++ [⟨tm, ses, num, cell⟩]) := pushed (b := nb) (e := ⟨tm, ses, num, cell⟩) (Sn := Lc) hvs hv' hvo
  have ho1 : s1.one := ⟨ho.d, rfl, ho.v, ho.n, ho.m⟩
  have hlen1 : (es ++ [(⟨tm, ses, num, cell⟩ : En)]).length = es.length + 1 := by simp
  refine nck_x (fldA_x (fldA_x (ldV_x (M9.im .here) (by repeat constructor) (nck_x (fldA_x (fldA_x (ldI_x (M9.im .here) (by repeat constructor) ?_)))))))
  refine nck_x (fldA_x (rd16 (s := s1) (r := [out]) (M9.im .here) ?_))
  refine last_x (s := s1) (es := es ++ [⟨tm, ses, num, cell⟩]) hl1.len ho1 hb (by rw [hlen1]; show s.Base + _ < _; omega) M9 fun aw8 M10 => ?_
  refine again_x (M10.im .here) (by repeat constructor) (again_x (M10.im .here) (by repeat constructor) ?_)
  rw [hlen1]
  show ixS s.mv s.Self 1 _
  rw [hmv, hs]
  refine ixS_x (by decide) (by decide) ?_
  refine st_x M10 (.there .here) (by repeat constructor) rfl rfl rfl fun aw9 M11 => ?_
  have M11 : Hp aw0 own ro aw9 ((pb, PB s1 out) :: (mb, YB [s.Base + (es.length + 1 : Nat)]) :: (((nb, NB) :: Lc) ++ l)) := M11
  refine sure_x (s := s1) (ms := [s.Base + (es.length + 1 : Nat)]) (c := c) hl1 ho1 hmv hN (by simp) (by simp) (fun y hy => ?_) hb (by rw [hlen1]; show s.Base + _ < _; omega) M11 .here (fun p hp => ?_) fun x aw10 hx M12 => ?_
  · obtain rfl := List.mem_singleton.1 hy
    omega
  · rcases List.mem_append.1 hp with hp | hp
    · exact List.mem_cons_of_mem _ (List.mem_append_left _ hp)
    · exact List.mem_cons_of_mem _ (List.mem_append_right _ (hS p hp))
  · obtain rfl := List.mem_singleton.1 hx
    refine others_x (s := { s1 with Commit := cm s1 (es ++ [⟨tm, ses, num, cell⟩]) (s.Base + (es.length + 1 : Nat)) }) (out := out) hN hs M12 .here ?_
    exact hQ lv' ((nb, NB) :: Lc) aw10 hl1 (by rw [hlen1]; exact .inr ⟨nb, rfl⟩) rfl M12
end
end Go.Proofs.Try
