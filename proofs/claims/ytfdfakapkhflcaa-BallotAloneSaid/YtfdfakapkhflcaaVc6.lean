/- ballot: what is asked of a leader alone; how it leads. -/
import Derived.Test.YtfdfakapkhflcaaVc5
import Derived.Test.YtfdfakapkhflcaaBcD
set_option linter.unusedSimpArgs false
set_option linter.unusedVariables false
set_option linter.unusedSectionVars false
set_option maxRecDepth 100000
namespace Go.Proofs.Try
open Go Go.Am Go.RowKit Go.Oc
variable [SymE]
set_option maxHeartbeats 1000000
section
variable {aw0 aw : AW} {own : List Nat} {ro l S Sc : List (Nat × Blk)} {pb mb vb nb b : Nat} {s : Sv} {out : Value} {es : List En} {E : List PanicEntry → AW → Prop} {ds : List UInt8}
theorem gt16 {K : Prop} {r : List Value} {t : TypeId} {e : Nat} {w : Bool} {fz : Nat} (hi : In aw b ⟨s.C ++ r, t, e, w, fz⟩) (h : K) :
    aw.get b 0 = some (.int .i64 s.N) ∧ aw.get b (0 + 1) = some (.int .i64 s.Self) ∧ aw.get b (0 + 2) = some (.int .i64 s.Wait) ∧ aw.get b (0 + 3) = some (.int .u64 s.Term) ∧ aw.get b (0 + 4) = some (.int .i64 s.Vote) ∧ aw.get b (0 + 5) = some (.int .u64 s.Base) ∧ aw.get b (0 + 6) = some (.int .u64 s.BTerm) ∧ aw.get b (0 + 7) = some s.dv ∧ aw.get b (0 + 8) = some s.lv ∧ aw.get b (0 + 9) = some (.int .u64 s.Commit) ∧ aw.get b (0 + 10) = some (.int .u8 s.Role) ∧ aw.get b (0 + 11) = some (.int .i64 s.Lead) ∧ aw.get b (0 + 12) = some (.int .i64 s.Left) ∧ aw.get b (0 + 13) = some s.vv ∧ aw.get b (0 + 14) = some s.nv ∧ aw.get b (0 + 15) = some s.mv ∧ K := by
  refine get_x hi (by repeat constructor) (get_x hi (by repeat constructor) (get_x hi (by repeat constructor) (get_x hi (by repeat constructor) (get_x hi (by repeat constructor) (get_x hi (by repeat constructor) (get_x hi (by repeat constructor) ?_))))))
  exact get_x hi (by repeat constructor) (get_x hi (by repeat constructor) (get_x hi (by repeat constructor) (get_x hi (by repeat constructor) (get_x hi (by repeat constructor) (get_x hi (by repeat constructor) (get_x hi (by repeat constructor) (get_x hi (by repeat constructor) (get_x hi (by repeat constructor) h))))))))
theorem cm_last {e : En} (hb : s.Base = 0) (hc : s.Commit < (es.length + 1 : Nat)) (ht : s.Term = (e.term : Int)) : cm s (es ++ [e]) (s.Base + (es.length + 1 : Nat)) = (es.length + 1 : Nat) := by
  have hx : tAt s.Base s.BTerm (es ++ [e]) (s.Base + (es.length + 1 : Nat)) = ((e.term : Int), true) := by
    unfold tAt
    rw [hb, if_neg (by simp; omega), if_neg (by omega), show ((0 : Int) + (es.length + 1 : Nat) - 0 - 1).toNat = es.length by omega]
    simp
  unfold cm
  rw [hx, if_pos ⟨rfl, by rw [hb]; omega, ht.symm⟩, hb]; omega
abbrev TB : Blk := ⟨[.bool true], 4, 1, true, 0⟩
theorem lead_x {Q : Unit → AW → Prop} {cv cn c tm : Nat} {m0 : Int} {x0 : Value} (hl : EsS aw0 own ro S s.lv es) (hcap : Cap s.lv es.length) (ho : s.one) (hN : s.N = 1) (hs : s.Self = 0) (hr : s.Role = 1) (hb : s.Base = 0) (hes : es.length < 2 ^ 29) (ht : s.Term = (tm : Int)) (hc : s.Commit < (es.length + 1 : Nat))
    (hvv : s.vv = .slice (some ⟨vb, 0, none⟩) 1 cv) (hnv : s.nv = .slice (some ⟨nb, 0, none⟩) 1 cn) (hmv : s.mv = .slice (some ⟨mb, 0, none⟩) 1 c)
    (M : Hp aw0 own ro aw ((pb, PB s out) :: (mb, YB [m0]) :: (vb, TB) :: (nb, ⟨[x0], 24, 1, true, 0⟩) :: l)) (hS : ∀ p ∈ S, p ∈ l)
    (hQ : ∀ lv' Ln aw', EsS aw0 own ro (Ln ++ S) lv' (es ++ [⟨tm, 0, 0, []⟩]) → Cap lv' (es ++ [(⟨tm, 0, 0, []⟩ : En)]).length → Go.Am.one lv' = true →
      Hp aw0 own ro aw' ((pb, PB { s with lv := lv', Role := 2, Lead := 0, Commit := (es.length + 1 : Nat) } out) :: (mb, YB [(es.length + 1 : Nat)]) :: (vb, TB) :: (nb, YB [(es.length + 1 : Nat)]) :: (Ln ++ l)) → Q () aw') : CallP prog 30 [Pt pb] aw sh30 Q E := by
  refine F30_ok _ aw ?_
  unfold S30_0
  refine nck_x (fldA_x (nck_x (fldA_x (ldV_x (M.im .here) (by repeat constructor) ?_))))
  rw [hvv]
  refine slen_x ⟨1 + 1, ?_⟩
  show S30_1s Q E (S30_1 Q E 1) _ _ _ _ _ _ aw
  unfold S30_1s
  refine cnd_1x rfl (ixS_x (by decide) (by decide) (ldB_x (M.im (.there (.there .here))) .here (cnd_1x rfl ?_)))
  unfold S30_3
  show S30_1s Q E (S30_1 Q E 0) _ _ _ _ _ _ aw
  unfold S30_1s
  refine cnd_0x rfl (nck_x (fldA_x (ldI_x (M.im .here) (by repeat constructor) ?_)))
  refine cnd_0x (by rw [hr]; rfl) (nck_x (fldA_x (ldI_x (M.im .here) (by repeat constructor) ?_)))
  refine cnd_0x (by rw [hN]; rfl) (nck_x (fldA_x (ldI_x (M.im .here) (by repeat constructor) ?_)))
  refine nck_x (fldA_x (st_x M .here (by repeat constructor) rfl rfl rfl fun aw1 M1 => ?_))
  refine nck_x (fldA_x (st_x M1 .here (by repeat constructor) rfl rfl rfl fun aw2 M2 => ?_))
  let s1 : Sv := { s with Role := 2, Lead := s.Self }
  have M2 : Hp aw0 own ro aw2 ((pb, PB s1 out) :: (mb, YB [m0]) :: (vb, TB) :: (nb, ⟨[x0], 24, 1, true, 0⟩) :: l) := M2
  have ho1 : s1.one := ⟨ho.d, ho.l, ho.v, ho.n, ho.m⟩
  refine nck_x (fldA_x (ldI_x (M2.im .here) (by repeat constructor) ⟨1 + 1, ?_⟩))
  show S30_2s Q E (S30_2 Q E 1) _ _ _ _ aw2
  unfold S30_2s
  refine cnd_1x (by show decide ((0 : Int) < s.N) = true; rw [hN]; rfl) ?_
  refine nck_x (fldA_x (ldV_x (M2.im .here) (by repeat constructor) (nck_x (fldA_x (ldV_x (M2.im .here) (by repeat constructor) ?_)))))
  refine nck_x (rd16 (s := s1) (r := [out]) (M2.im .here) ?_)
  refine last_x (s := s1) hl.len ho1 (by show 0 ≤ s.Base; omega) (by show s.Base + _ < _; omega) M2 fun aw3 M3 => ?_
  refine again_x (M3.im .here) (by repeat constructor) (again_x (M3.im .here) (by repeat constructor) ?_)
  show ixS s.nv 0 1 _
  rw [hnv]
  have e1 : IntKind.u64.wrap (s1.Base + (es.length : Int) + 1) = ((es.length + 1 : Nat) : Int) := by
    show IntKind.u64.wrap (s.Base + (es.length : Int) + 1) = _
    rw [hb, wrap_u64]; omega
  rw [e1]
  refine ixS_x (by decide) (by decide) ?_
  refine st_x M3 (.there (.there (.there .here))) (by repeat constructor) rfl rfl rfl fun aw4 M4 => ?_
  show ixS s.mv 0 1 _
  rw [hmv]
  refine ixS_x (by decide) (by decide) ?_
  refine st_x M4 (.there .here) (by repeat constructor) rfl rfl rfl fun aw5 M5 => ?_
  have M5 : Hp aw0 own ro aw5 ((pb, PB s1 out) :: (mb, YB [0]) :: ((vb, TB) :: (nb, YB [(es.length + 1 : Nat)]) :: l)) := M5
  show S30_2s Q E (S30_2 Q E 0) _ _ _ _ aw5
  unfold S30_2s
  refine cnd_0x (by show decide (_ < s.N) = false; rw [hN]; rfl) ?_
  refine add_x (s := s1) (Sc := []) (c := c) (tm := tm) (ses := 0) (num := 0) (cell := []) (cv := nil3) hl hcap ho1 hN hs hmv (by show 0 ≤ s.Base; omega) (by show s.Base < _; omega) hes ht (fun _ _ _ _ => .of .nil) rfl (by decide) M5 (fun p hp => List.mem_cons_of_mem _ (List.mem_cons_of_mem _ (hS p hp))) (fun p hp => by cases hp) fun lv' Ln aw6 h1 h2 h3 M6 => ?_
  refine hQ lv' Ln aw6 h1 h2 h3 ?_
  have e2 : cm { s1 with lv := lv' } (es ++ [⟨tm, 0, 0, []⟩]) (s1.Base + (es.length + 1 : Nat)) = (es.length + 1 : Nat) := cm_last (s := { s1 with lv := lv' }) hb hc ht
  rw [e2] at M6
  have e3 : s1.Base + ((es.length + 1 : Nat) : Int) = ((es.length + 1 : Nat) : Int) := by show s.Base + _ = _; omega
  rw [e3] at M6
  have e4 : ({ s1 with lv := lv', Commit := ((es.length + 1 : Nat) : Int) } : Sv) = { s with lv := lv', Role := 2, Lead := 0, Commit := ((es.length + 1 : Nat) : Int) } := by
    show ({ s with Role := 2, Lead := s.Self, lv := lv', Commit := ((es.length + 1 : Nat) : Int) } : Sv) = _
    rw [hs]
  have M7 : Hp aw0 own ro aw6 ((pb, PB { s1 with lv := lv', Commit := ((es.length + 1 : Nat) : Int) } out) :: (mb, YB [(es.length + 1 : Nat)]) :: (Ln ++ ((vb, TB) :: (nb, YB [(es.length + 1 : Nat)]) :: l))) := M6
  rw [e4] at M7
  exact M7.perm (by
    classical exact List.perm_iff_count.2 fun a => by simp only [List.count_append, List.count_cons]; omega)
end
end Go.Proofs.Try
