/- ballot.Propose, where nobody else is. -/
import Derived.Test.YtfdfakapkhflcaaVc6
set_option linter.unusedSimpArgs false
set_option linter.unusedVariables false
set_option linter.unusedSectionVars false
set_option maxRecDepth 100000
namespace Go.Proofs.Try
open Go Go.Am Go.RowKit Go.Oc
variable [SymE]
set_option maxHeartbeats 1000000
theorem rd16b {aw : AW} {b : Nat} {s : Sv} {K : Nat → Nat → Int → Int → Int → Int → Int → Int → Int → Value → Value → Int → Int → Int → Int → Value → Value → Value → Prop} {r : List Value} {t : TypeId} {e : Nat} {w : Bool} {fz : Nat} (hi : In aw b ⟨s.C ++ r, t, e, w, fz⟩) (h : K b 0 s.N s.Self s.Wait s.Term s.Vote s.Base s.BTerm s.dv s.lv s.Commit s.Role s.Lead s.Left s.vv s.nv s.mv) :
    ptr (Pt b) fun b i => gI .i64 aw b i fun c0 => gI .i64 aw b (i + 1) fun c1 => gI .i64 aw b (i + 2) fun c2 => gI .u64 aw b (i + 3) fun c3 => gI .i64 aw b (i + 4) fun c4 => gI .u64 aw b (i + 5) fun c5 => gI .u64 aw b (i + 6) fun c6 => gV aw b (i + 7) fun c7 => gV aw b (i + 8) fun c8 => gI .u64 aw b (i + 9) fun c9 => gI .u8 aw b (i + 10) fun c10 => gI .i64 aw b (i + 11) fun c11 => gI .i64 aw b (i + 12) fun c12 => gV aw b (i + 13) fun c13 => gV aw b (i + 14) fun c14 => gV aw b (i + 15) fun c15 => K b i c0 c1 c2 c3 c4 c5 c6 c7 c8 c9 c10 c11 c12 c13 c14 c15 := by
  refine ptr_x (gI_x hi (by repeat constructor) (gI_x hi (by repeat constructor) (gI_x hi (by repeat constructor) (gI_x hi (by repeat constructor) (gI_x hi (by repeat constructor) (gI_x hi (by repeat constructor) (gI_x hi (by repeat constructor) ?_)))))))
  refine gV_x hi (by repeat constructor) (gV_x hi (by repeat constructor) (gI_x hi (by repeat constructor) (gI_x hi (by repeat constructor) (gI_x hi (by repeat constructor) (gI_x hi (by repeat constructor) (gV_x hi (by repeat constructor) (gV_x hi (by repeat constructor) (gV_x hi (by repeat constructor) h))))))))
section
variable {aw0 aw : AW} {own : List Nat} {ro l S Sc : List (Nat × Blk)} {s : Sv} {es : List En} {E : List PanicEntry → AW → Prop} {ds : List UInt8} {v0 n0 : Value} {m0 : Int}
theorem propose_x {Q : (Int × Int × Int × Int × Int × Int × Int × Value × Value × Int × Int × Int × Int × Value × Value × Value × Value × Int × Int) → AW → Prop} {tm ses num : Nat} {cv : Value} {cell : List UInt8} (h : StS aw0 own ro S s es ds [v0] [n0] [U m0]) (hN : s.N = 1) (hs : s.Self = 0) (hr : s.Role = 2) (hb : s.Base = 0) (hes : es.length < 2 ^ 28) (hcl : ∀ e ∈ es, e.cell.length < 2 ^ 44) (hds : ds.length < 2 ^ 44) (ht : s.Term = (tm : Int)) (hc : s.Commit < (es.length + 1 : Nat))
    (hv : Go.Am.one v0 = true) (hn : Go.Am.one n0 = true) (hcv : Rws aw0 own ro Sc cv cell) (hco : Go.Am.one cv = true) (hlen : cell.length ≤ 2000) (hcvl : ∃ q c, cv = .slice q cell.length c) (M : Hp aw0 own ro aw l) (hS : ∀ p ∈ S, p ∈ l) (hSc : ∀ p ∈ Sc, p ∈ l)
    (hQ : ∀ (s' : Sv) Sn aw', StS aw0 own ro Sn s' (es ++ [⟨tm, ses, num, cell⟩]) ds [v0] [n0] [U (es.length + 1 : Nat)] → s'.N = 1 → s'.Self = 0 → s'.Role = 2 → s'.Base = 0 → s'.Term = s.Term → s'.Commit = (es.length + 1 : Nat) → Hp aw0 own ro aw' (Sn ++ l) →
      Q (s'.N, s'.Self, s'.Wait, s'.Term, s'.Vote, s'.Base, s'.BTerm, s'.dv, s'.lv, s'.Commit, s'.Role, s'.Lead, s'.Left, s'.vv, s'.nv, s'.mv, nil3, (es.length + 1 : Nat), 0) aw') :
    CallP prog 10 [s.A, .int .u64 (ses : Int), .int .u64 (num : Int), cv] aw sh10 Q E := by
  refine F10_ok _ _ _ _ _ _ _ _ _ _ _ _ _ _ _ _ _ _ _ aw ?_
  unfold S10_0
  refine alc_x M fun qb aw1 M1 => alc_x M1 fun rb aw2 M2 => ?_
  refine fldA_x (ldI_x (M2.im (.there .here)) (by repeat constructor) (cnd_0x (by rw [hr]; rfl) (fldA_x (ldI_x (M2.im (.there .here)) (by repeat constructor) ?_))))
  have hz : decide (s.N = 0) = false := by rw [hN]; rfl
  rw [hz]
  unfold S10_1
  obtain ⟨q, c, hq⟩ := hcvl
  have hsl : ∀ K : Int → Prop, K (cell.length : Int) → slen cv K := fun K h => by rw [hq]; exact slen_x h
  refine cnd_0x rfl (hsl _ (cnd_0x (decide_eq_false (by omega)) ?_))
  refine rd16 (s := s) (r := []) (M2.im (.there .here)) ?_
  refine copy_x (s := s) (vs := [v0]) (ns := [n0]) (ms := [U m0]) h (by omega) hcl hds ⟨by simp, by simp, by simp [hv]⟩ ⟨by simp, by simp, by simp [hn]⟩ ⟨by simp, by simp, rfl⟩ M2 (fun p hp => List.mem_cons_of_mem _ (List.mem_cons_of_mem _ (hS p hp))) fun dv lv vb nb mb Lr aw3 hdv hlv hcap hdo hlo M3 => ?_
  let s1 : Sv := { s with dv := dv, lv := lv, vv := .slice (some ⟨vb, 0, none⟩) 1 UNK, nv := .slice (some ⟨nb, 0, none⟩) 1 UNK, mv := .slice (some ⟨mb, 0, none⟩) 1 UNK }
  have M3 : Hp aw0 own ro aw3 ((vb, ⟨[v0], 4, 1, true, 0⟩) :: (nb, ⟨[n0], 24, 1, true, 0⟩) :: (mb, YB [m0]) :: (Lr ++ ((rb, ⟨Z16, 30, 0, true, 0⟩) :: (qb, ⟨s.C, 30, 0, true, 0⟩) :: l))) := M3
  refine alc_x M3 fun pb aw4 M4 => ⟨hco, ?_⟩
  have M4 : Hp aw0 own ro aw4 ((pb, PB s1 nil3) :: (vb, ⟨[v0], 4, 1, true, 0⟩) :: (nb, ⟨[n0], 24, 1, true, 0⟩) :: (mb, YB [m0]) :: (Lr ++ ((rb, ⟨Z16, 30, 0, true, 0⟩) :: (qb, ⟨s.C, 30, 0, true, 0⟩) :: l))) := M4
  have M5 : Hp aw0 own ro aw4 ((pb, PB s1 nil3) :: (mb, YB [m0]) :: (Lr ++ ((vb, ⟨[v0], 4, 1, true, 0⟩) :: (nb, ⟨[n0], 24, 1, true, 0⟩) :: (rb, ⟨Z16, 30, 0, true, 0⟩) :: (qb, ⟨s.C, 30, 0, true, 0⟩) :: l))) := M4.perm (by
    classical exact List.perm_iff_count.2 fun a => by simp only [List.count_append, List.count_cons]; omega)
  have ho1 : s1.one := ⟨hdo, hlo, rfl, rfl, rfl⟩
  refine add_x (s := s1) (S := Lr) (Sc := Sc) (c := UNK) (tm := tm) (ses := ses) (num := num) (cell := cell) hlv hcap ho1 hN hs rfl (by show 0 ≤ s.Base; omega) (by show s.Base < _; omega) (by omega) ht hcv hco (by omega) M5 (fun p hp => List.mem_append_left _ hp) (fun p hp => List.mem_append_right _ (List.mem_cons_of_mem _ (List.mem_cons_of_mem _ (List.mem_cons_of_mem _ (List.mem_cons_of_mem _ (hSc p hp)))))) fun lv' Ln aw5 h1 h2 h3 M6 => ?_
  have e2 : cm { s1 with lv := lv' } (es ++ [⟨tm, ses, num, cell⟩]) (s1.Base + (es.length + 1 : Nat)) = (es.length + 1 : Nat) := cm_last (s := { s1 with lv := lv' }) hb hc ht
  rw [e2] at M6
  have e3 : s1.Base + ((es.length + 1 : Nat) : Int) = ((es.length + 1 : Nat) : Int) := by show s.Base + _ = _; omega
  rw [e3] at M6
  let s2 : Sv := { s1 with lv := lv', Commit := ((es.length + 1 : Nat) : Int) }
  have M6 : Hp aw0 own ro aw5 ((pb, PB s2 nil3) :: (mb, YB [(es.length + 1 : Nat)]) :: (Ln ++ (Lr ++ ((vb, ⟨[v0], 4, 1, true, 0⟩) :: (nb, ⟨[n0], 24, 1, true, 0⟩) :: (rb, ⟨Z16, 30, 0, true, 0⟩) :: (qb, ⟨s.C, 30, 0, true, 0⟩) :: l)))) := M6
  have ho2 : s2.one := ⟨hdo, h3, rfl, rfl, rfl⟩
  have f1 : s2.N = 1 := hN
  have f2 : s2.Self = 0 := hs
  have f3 : s2.Role = 2 := hr
  have f4 : s2.Base = 0 := hb
  have f5 : s2.Term = s.Term := rfl
  have f6 : s2.Commit = (es.length + 1 : Nat) := rfl
  have f7 : s2.dv = dv := rfl
  have f8 : s2.lv = lv' := rfl
  have f9 : s2.vv = .slice (some ⟨vb, 0, none⟩) 1 UNK := rfl
  have f10 : s2.nv = .slice (some ⟨nb, 0, none⟩) 1 UNK := rfl
  have f11 : s2.mv = .slice (some ⟨mb, 0, none⟩) 1 UNK := rfl
  clear_value s2
  refine nck_x (fldA_x (rd16b (s := s2) (r := [nil3]) (M6.im .here) ?_))
  refine nck_x (fldA_x (ldV_x (M6.im .here) (by repeat constructor) ?_))
  refine nck_x (fldA_x (rd16 (s := s2) (r := [nil3]) (M6.im .here) ?_))
  have hlen1 : (es ++ [(⟨tm, ses, num, cell⟩ : En)]).length = es.length + 1 := by simp
  refine last_x (s := s2) (es := es ++ [⟨tm, ses, num, cell⟩]) (by rw [f8]; exact h1.len) ho2 (by omega) (by rw [hlen1]; omega) M6 fun aw6 M7 => ?_
  refine gt16 (s := s2) (r := [nil3]) (M7.im .here) (again_x (M7.im .here) (by repeat constructor) ?_)
  have M8 : Hp aw0 own ro aw6 ((rb, ⟨Z16, 30, 0, true, 0⟩) :: ((pb, PB s2 nil3) :: ((vb, ⟨[v0], 4, 1, true, 0⟩) :: (nb, ⟨[n0], 24, 1, true, 0⟩) :: (mb, YB [(es.length + 1 : Nat)]) :: (Ln ++ Lr)) ++ ((qb, ⟨s.C, 30, 0, true, 0⟩) :: l))) := M7.perm (by
    classical exact List.perm_iff_count.2 fun a => by simp only [List.count_append, List.count_cons]; omega)
  refine st_x M8 .here (by repeat constructor) rfl rfl ho2.all fun aw7 M9 => ?_
  have M9 : Hp aw0 own ro aw7 ((rb, ⟨s2.C, 30, 0, true, 0⟩) :: ((pb, PB s2 nil3) :: ((vb, ⟨[v0], 4, 1, true, 0⟩) :: (nb, ⟨[n0], 24, 1, true, 0⟩) :: (mb, YB [(es.length + 1 : Nat)]) :: (Ln ++ Lr)) ++ ((qb, ⟨s.C, 30, 0, true, 0⟩) :: l))) := M9
  refine again_x (M9.im (.there .here)) (by repeat constructor) (rd16 (s := s2) (r := []) (M9.im .here) ?_)
  rw [hlen1]
  have e5 : s2.Base + ((es.length + 1 : Nat) : Int) = ((es.length + 1 : Nat) : Int) := by omega
  rw [e5]
  have M10' : Hp aw0 own ro aw7 (((vb, ⟨[v0], 4, 1, true, 0⟩) :: (nb, ⟨[n0], 24, 1, true, 0⟩) :: (mb, YB [(es.length + 1 : Nat)]) :: (Ln ++ Lr)) ++ ((qb, ⟨s.C, 30, 0, true, 0⟩) :: l)) := (M9.drop .here).drop .here
  have M10 : Hp aw0 own ro aw7 ((qb, ⟨s.C, 30, 0, true, 0⟩) :: (((vb, ⟨[v0], 4, 1, true, 0⟩) :: (nb, ⟨[n0], 24, 1, true, 0⟩) :: (mb, YB [(es.length + 1 : Nat)]) :: (Ln ++ Lr)) ++ l)) := M10'.perm (by
    classical exact List.perm_iff_count.2 fun a => by simp only [List.count_append, List.count_cons]; omega)
  refine hQ s2 ((vb, ⟨[v0], 4, 1, true, 0⟩) :: (nb, ⟨[n0], 24, 1, true, 0⟩) :: (mb, YB [(es.length + 1 : Nat)]) :: (Ln ++ Lr)) aw7 ⟨by rw [f7]; exact hdv.more fun p hp => List.mem_cons_of_mem _ (List.mem_cons_of_mem _ (List.mem_cons_of_mem _ (List.mem_append_right _ hp))), by rw [f8]; exact h1.more fun p hp => List.mem_cons_of_mem _ (List.mem_cons_of_mem _ (List.mem_cons_of_mem _ hp)), ⟨vb, UNK, f9, ?_⟩, ⟨nb, UNK, f10, ?_⟩, ⟨mb, UNK, f11, ?_⟩, ho2.d, ho2.l⟩ f1 f2 f3 f4 f5 f6 (M10.drop .here)
  · exact List.mem_cons_self ..
  · exact List.mem_cons_of_mem _ (List.mem_cons_self ..)
  · exact List.mem_cons_of_mem _ (List.mem_cons_of_mem _ (List.mem_cons_self ..))
end
end Go.Proofs.Try
