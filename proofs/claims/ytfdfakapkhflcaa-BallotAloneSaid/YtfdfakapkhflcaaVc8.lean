/- ballot.New and ballot.Tick, where nobody else is. -/
import Derived.Test.YtfdfakapkhflcaaVc7
set_option linter.unusedSimpArgs false
set_option linter.unusedVariables false
set_option linter.unusedSectionVars false
set_option maxRecDepth 100000
namespace Go.Proofs.Try
open Go Go.Am Go.RowKit Go.Oc
variable [SymE]
set_option maxHeartbeats 1000000
section
variable {aw0 aw aw1 : AW} {own : List Nat} {ro l l' S Sc : List (Nat × Blk)} {s : Sv} {es : List En} {E : List PanicEntry → AW → Prop} {ds : List UInt8} {v0 n0 v : Value} {m0 : Int}
theorem hp_comp (M : Hp aw0 own ro aw l) (C : Hp aw (l.map (·.1)) ro aw1 l') : Hp aw0 own ro aw1 l' := by
  have M' : Hp aw0 own ro aw (l ++ []) := by rw [List.append_nil]; exact M
  have := M'.call C
  rwa [List.append_nil] at this
theorem rws_self {bs : List UInt8} (h : Rws aw0 own ro S v bs) (M : Hp aw0 own ro aw l) : Rws aw (l.map (·.1)) ro S v bs := fun aw' L M' hS => h aw' L (hp_comp M M') hS
theorem ess_self (h : EsS aw0 own ro S v es) (M : Hp aw0 own ro aw l) : EsS aw (l.map (·.1)) ro S v es := by
  cases h with
  | nil => exact .nil
  | emp => exact .emp
  | «at» hb hs => exact .at (fun aw' L M' hS => hb aw' L (hp_comp M M') hS) (hs.mono fun v bs h => rws_self h M)
theorem hp_roOk (M : Hp aw own ro aw1 l) : RoOk aw aw1 := fun b B _ h1 h2 => by
  obtain ⟨B0, h3, _⟩ := M.rok b B h1 h2
  exact ⟨B0, h3⟩
theorem mk1_x {K : Value → AW → Prop} {el bytes : Nat} {z : Value} (M : Hp aw0 own ro aw l) (hb : bytes ≤ 2 ^ 47) (h : ∀ b aw', Hp aw0 own ro aw' ((b, ⟨[z], el, 1, true, 0⟩) :: l) → K (.slice (some ⟨b, 0, none⟩) 1 1) aw') : mk aw el 1 bytes [z] 1 1 K :=
  ⟨_, _, by decide, by decide, by show bytes * 1 ≤ _; omega, by decide, rfl, rfl, h _ _ (M.alloc (cs := [z]) el 1)⟩
theorem new_x {Q : (Int × Int × Int × Int × Int × Int × Int × Value × Value × Int × Int × Int × Int × Value × Value × Value × Int) → AW → Prop} {w : Int} (h1 : 2 ≤ w) (h2 : w ≤ 1000) (M : Hp aw0 own ro aw l)
    (hQ : ∀ (s : Sv) Sn aw', StS aw0 own ro Sn s [] [] [.bool false] [U 0] [U 0] → s.N = 1 → s.Self = 0 → s.Role = 0 → s.Base = 0 → s.Term = 0 → s.Commit = 0 → s.Left = w → Hp aw0 own ro aw' (Sn ++ l) → Q (s.N, s.Self, s.Wait, s.Term, s.Vote, s.Base, s.BTerm, s.dv, s.lv, s.Commit, s.Role, s.Lead, s.Left, s.vv, s.nv, s.mv, 0) aw') :
    CallP prog 8 [.int .i64 1, .int .i64 0, .int .i64 w] aw sh8 Q E := by
  refine F8_ok _ _ _ aw ?_
  unfold S8_0
  refine alc_x M fun pb aw1 M1 => ?_
  refine cnd_0x rfl (cnd_0x rfl (cnd_0x rfl (cnd_0x rfl (cnd_0x (decide_eq_false (by omega)) (cnd_0x (decide_eq_false (by omega)) ?_)))))
  refine mk1_x M1 (by decide) fun vb aw2 M2 => mk1_x M2 (by decide) fun nb aw3 M3 => mk1_x M3 (by decide) fun mb aw4 M4 => ⟨rfl, rfl, rfl, ?_⟩
  let s : Sv := ⟨1, 0, w, 0, -1, 0, 0, nil3, nil3, 0, 0, -1, w, .slice (some ⟨vb, 0, none⟩) 1 1, .slice (some ⟨nb, 0, none⟩) 1 1, .slice (some ⟨mb, 0, none⟩) 1 1⟩
  have ho : s.one := ⟨rfl, rfl, rfl, rfl, rfl⟩
  refine st_x M4 (.there (.there (.there .here))) (by repeat constructor) rfl rfl ho.all fun aw5 M5 => ?_
  have M5 : Hp aw0 own ro aw5 ((mb, YB [0]) :: (nb, YB [0]) :: (vb, ⟨[.bool false], 4, 1, true, 0⟩) :: (pb, ⟨s.C, 30, 0, true, 0⟩) :: l) := M5
  refine rd16 (s := s) (r := []) (M5.im (.there (.there (.there .here)))) ?_
  have M6 : Hp aw0 own ro aw5 ([(mb, YB [0]), (nb, YB [0]), (vb, ⟨[.bool false], 4, 1, true, 0⟩)] ++ l) := M5.drop (.there (.there (.there .here)))
  refine hQ s _ aw5 ⟨fun _ _ _ _ => .of .nil, .nil, ⟨vb, 1, rfl, ?_⟩, ⟨nb, 1, rfl, ?_⟩, ⟨mb, 1, rfl, ?_⟩, rfl, rfl⟩ rfl rfl rfl rfl rfl rfl rfl M6
  · exact List.mem_cons_of_mem _ (List.mem_cons_of_mem _ (List.mem_cons_self ..))
  · exact List.mem_cons_of_mem _ (List.mem_cons_self ..)
  · exact List.mem_cons_self ..
theorem wait_x {Q : Unit → AW → Prop} {pb : Nat} {out : Value} {d : Int} (M : Hp aw0 own ro aw ((pb, PB s out) :: l)) (hQ : ∀ x aw', Hp aw0 own ro aw' ((pb, PB { s with Left := x } out) :: l) → Q () aw') : CallP prog 26 [Pt pb, .int .i64 d] aw sh26 Q E := by
  refine F26_ok _ _ aw ?_
  unfold S26_0
  refine nck_x (fldA_x (fldA_x (ldI_x (M.im .here) (by repeat constructor) (nck_x (fldA_x (fldA_x (ldI_x (M.im .here) (by repeat constructor) (nck_x (fldA_x (fldA_x ?_))))))))))
  refine st_x M .here (by repeat constructor) rfl rfl rfl fun aw1 M1 => ?_
  exact hQ (IntKind.i64.wrap (s.Wait + max 0 (min d s.Wait))) aw1 M1
theorem tick_x {Q : (Int × Int × Int × Int × Int × Int × Int × Value × Value × Int × Int × Int × Int × Value × Value × Value × Value) → AW → Prop} {d : Int} (h : StS aw0 own ro S s [] [] [v0] [n0] [U m0]) (hN : s.N = 1) (hs : s.Self = 0) (hr : s.Role = 0) (hb : s.Base = 0) (ht : s.Term = 0) (hc : s.Commit = 0) (hl : 1 ≤ s.Left) (hl2 : s.Left ≤ 1000)
    (hv : Go.Am.one v0 = true) (hn : Go.Am.one n0 = true) (M : Hp aw0 own ro aw l) (hS : ∀ p ∈ S, p ∈ l)
    (hQ1 : ∀ (s' : Sv) Sn aw', StS aw0 own ro Sn s' [] [] [v0] [n0] [U m0] → s'.N = 1 → s'.Self = 0 → s'.Role = 0 → s'.Base = 0 → s'.Term = 0 → s'.Commit = 0 → s'.Left = s.Left - 1 → 1 < s.Left → Hp aw0 own ro aw' (Sn ++ l) →
      Q (s'.N, s'.Self, s'.Wait, s'.Term, s'.Vote, s'.Base, s'.BTerm, s'.dv, s'.lv, s'.Commit, s'.Role, s'.Lead, s'.Left, s'.vv, s'.nv, s'.mv, nil3) aw')
    (hQ2 : s.Left = 1 → ∀ (s' : Sv) Sn aw', StS aw0 own ro Sn s' [⟨1, 0, 0, []⟩] [] [.bool true] [U 1] [U 1] → s'.N = 1 → s'.Self = 0 → s'.Role = 2 → s'.Base = 0 → s'.Term = 1 → s'.Commit = 1 → Hp aw0 own ro aw' (Sn ++ l) →
      Q (s'.N, s'.Self, s'.Wait, s'.Term, s'.Vote, s'.Base, s'.BTerm, s'.dv, s'.lv, s'.Commit, s'.Role, s'.Lead, s'.Left, s'.vv, s'.nv, s'.mv, nil3) aw') :
    CallP prog 9 [s.A, .int .i64 d] aw sh9 Q E := by
  refine F9_ok _ _ _ _ _ _ _ _ _ _ _ _ _ _ _ _ _ aw ?_
  unfold S9_0
  refine alc_x M fun qb aw1 M1 => alc_x M1 fun rb aw2 M2 => ?_
  refine fldA_x (ldI_x (M2.im (.there .here)) (by repeat constructor) ?_)
  refine cnd_0x (by rw [hN]; rfl) ?_
  refine rd16 (s := s) (r := []) (M2.im (.there .here)) ?_
  refine copy_x (s := s) (vs := [v0]) (ns := [n0]) (ms := [U m0]) h (by decide) (fun e he => by cases he) (by decide) ⟨by simp, by simp, by simp [hv]⟩ ⟨by simp, by simp, by simp [hn]⟩ ⟨by simp, by simp, rfl⟩ M2 (fun p hp => List.mem_cons_of_mem _ (List.mem_cons_of_mem _ (hS p hp))) fun dv lv vb nb mb Lr aw3 hdv hlv hcap hdo hlo M3 => ?_
  let s1 : Sv := { s with dv := dv, lv := lv, vv := .slice (some ⟨vb, 0, none⟩) 1 UNK, nv := .slice (some ⟨nb, 0, none⟩) 1 UNK, mv := .slice (some ⟨mb, 0, none⟩) 1 UNK }
  have M3 : Hp aw0 own ro aw3 ((vb, ⟨[v0], 4, 1, true, 0⟩) :: (nb, ⟨[n0], 24, 1, true, 0⟩) :: (mb, YB [m0]) :: (Lr ++ ((rb, ⟨Z16, 30, 0, true, 0⟩) :: (qb, ⟨s.C, 30, 0, true, 0⟩) :: l))) := M3
  refine alc_x M3 fun pb aw4 M4 => alc_x M4 fun kb aw5 M5 => st_x M5 .here (by repeat constructor) rfl rfl rfl fun aw6 M6 => ?_
  have M6 : Hp aw0 own ro aw6 ((kb, ⟨[Pt pb], 73, 0, true, 0⟩) :: (pb, PB s1 nil3) :: (vb, ⟨[v0], 4, 1, true, 0⟩) :: (nb, ⟨[n0], 24, 1, true, 0⟩) :: (mb, YB [m0]) :: (Lr ++ ((rb, ⟨Z16, 30, 0, true, 0⟩) :: (qb, ⟨s.C, 30, 0, true, 0⟩) :: l))) := M6
  have M7 : Hp aw0 own ro aw6 ((pb, PB s1 nil3) :: (kb, ⟨[Pt pb], 73, 0, true, 0⟩) :: (rb, ⟨Z16, 30, 0, true, 0⟩) :: (qb, ⟨s.C, 30, 0, true, 0⟩) :: ((vb, ⟨[v0], 4, 1, true, 0⟩) :: (nb, ⟨[n0], 24, 1, true, 0⟩) :: (mb, YB [m0]) :: Lr ++ l)) := M6.perm (by
    classical exact List.perm_iff_count.2 fun a => by simp only [List.count_append, List.count_cons]; omega)
  have ho1 : s1.one := ⟨hdo, hlo, rfl, rfl, rfl⟩
  have f1 : s1.N = 1 := hN
  have f2 : s1.Self = 0 := hs
  have f3 : s1.Role = 0 := hr
  have f4 : s1.Base = 0 := hb
  have f5 : s1.Term = 0 := ht
  have f6 : s1.Commit = 0 := hc
  have f12 : s1.Left = s.Left := rfl
  have f7 : s1.dv = dv := rfl
  have f8 : s1.lv = lv := rfl
  have f9 : s1.vv = .slice (some ⟨vb, 0, none⟩) 1 UNK := rfl
  have f10 : s1.nv = .slice (some ⟨nb, 0, none⟩) 1 UNK := rfl
  have f11 : s1.mv = .slice (some ⟨mb, 0, none⟩) 1 UNK := rfl
  clear_value s1
  refine ldV_x (M7.im (.there .here)) (by repeat constructor) (nck_x (fldA_x (fldA_x (ldI_x (M7.im .here) (by repeat constructor) ?_))))
  refine cnd_0x (by rw [f3]; rfl) ?_
  refine ldV_x (M7.im (.there .here)) (by repeat constructor) (nck_x (fldA_x (fldA_x (ldI_x (M7.im .here) (by repeat constructor) (nck_x (fldA_x (fldA_x ?_)))))))
  rw [f12, i64_in (n := s.Left - 1) (by omega) (by omega)]
  refine st_x M7 .here (by repeat constructor) rfl rfl rfl fun aw7 M8 => ?_
  let s2 : Sv := { s1 with Left := s.Left - 1 }
  let X : List (Nat × Blk) := (vb, ⟨[v0], 4, 1, true, 0⟩) :: (nb, ⟨[n0], 24, 1, true, 0⟩) :: (mb, YB [m0]) :: Lr
  have M8 : Hp aw0 own ro aw7 ((pb, PB s2 nil3) :: (kb, ⟨[Pt pb], 73, 0, true, 0⟩) :: (rb, ⟨Z16, 30, 0, true, 0⟩) :: (qb, ⟨s.C, 30, 0, true, 0⟩) :: (X ++ l)) := M8
  have ho2 : s2.one := ⟨ho1.d, ho1.l, ho1.v, ho1.n, ho1.m⟩
  have g12 : s2.Left = s.Left - 1 := rfl
  replace f1 : s2.N = 1 := f1
  replace f2 : s2.Self = 0 := f2
  replace f3 : s2.Role = 0 := f3
  replace f4 : s2.Base = 0 := f4
  replace f5 : s2.Term = 0 := f5
  replace f6 : s2.Commit = 0 := f6
  replace f7 : s2.dv = dv := f7
  replace f8 : s2.lv = lv := f8
  replace f9 : s2.vv = .slice (some ⟨vb, 0, none⟩) 1 UNK := f9
  replace f10 : s2.nv = .slice (some ⟨nb, 0, none⟩) 1 UNK := f10
  replace f11 : s2.mv = .slice (some ⟨mb, 0, none⟩) 1 UNK := f11
  clear_value s2
  refine ldV_x (M8.im (.there .here)) (by repeat constructor) (nck_x (fldA_x (fldA_x (ldI_x (M8.im .here) (by repeat constructor) ?_))))
  by_cases hlt : 1 < s.Left
  · refine cnd_1x (decide_eq_true (by omega)) ?_
    refine ldV_x (M8.im (.there .here)) (by repeat constructor) (nck_x (fldA_x (rd16 (s := s2) (r := [nil3]) (M8.im .here) ?_)))
    refine st_x M8 (.there (.there .here)) (by repeat constructor) rfl rfl ho2.all fun aw8 M9 => ?_
    have M9 : Hp aw0 own ro aw8 ((pb, PB s2 nil3) :: (kb, ⟨[Pt pb], 73, 0, true, 0⟩) :: (rb, ⟨s2.C, 30, 0, true, 0⟩) :: (qb, ⟨s.C, 30, 0, true, 0⟩) :: (X ++ l)) := M9
    refine rd16 (s := s2) (r := []) (M9.im (.there (.there .here))) ?_
    refine hQ1 s2 X aw8 ⟨?_, ?_, ⟨vb, UNK, f9, ?_⟩, ⟨nb, UNK, f10, ?_⟩, ⟨mb, UNK, f11, ?_⟩, ho2.d, ho2.l⟩ f1 f2 f3 f4 f5 f6 g12 hlt ((((M9.drop .here).drop .here).drop .here).drop .here)
    · rw [f7]; exact hdv.more fun p hp => List.mem_cons_of_mem _ (List.mem_cons_of_mem _ (List.mem_cons_of_mem _ hp))
    · rw [f8]; exact hlv.more fun p hp => List.mem_cons_of_mem _ (List.mem_cons_of_mem _ (List.mem_cons_of_mem _ hp))
    · exact List.mem_cons_self ..
    · exact List.mem_cons_of_mem _ (List.mem_cons_self ..)
    · exact List.mem_cons_of_mem _ (List.mem_cons_of_mem _ (List.mem_cons_self ..))
  refine cnd_0x (decide_eq_false (by omega)) ?_
  refine ldV_x (M8.im (.there .here)) (by repeat constructor) (nck_x (fldA_x (fldA_x (ldI_x (M8.im .here) (by repeat constructor) (nck_x (fldA_x (fldA_x ?_)))))))
  rw [f5, show IntKind.u64.wrap (0 + 1) = 1 from rfl]
  refine st_x M8 .here (by repeat constructor) rfl rfl rfl fun aw8 M9 => ?_
  refine ldV_x (M9.im (.there .here)) (by repeat constructor) (ldV_x (M9.im (.there .here)) (by repeat constructor) (ldV_x (M9.im (.there .here)) (by repeat constructor) (ldV_x (M9.im (.there .here)) (by repeat constructor) ?_)))
  refine nck_x (fldA_x (fldA_x (ldI_x (M9.im .here) (by repeat constructor) (nck_x (fldA_x (fldA_x ?_))))))
  refine st_x M9 .here (by repeat constructor) rfl rfl rfl fun aw9 M10 => ?_
  refine again_x (M10.im (.there .here)) (by repeat constructor) (again_x (M10.im (.there .here)) (by repeat constructor) (nck_x (fldA_x (fldA_x ?_))))
  refine st_x M10 .here (by repeat constructor) rfl rfl rfl fun aw10 M11 => ?_
  refine again_x (M11.im (.there .here)) (by repeat constructor) (nck_x (fldA_x (fldA_x ?_)))
  refine st_x M11 .here (by repeat constructor) rfl rfl rfl fun aw11 M12 => ?_
  let s3 : Sv := { s2 with Term := 1, Vote := s2.Self, Role := 1, Lead := -1 }
  have M12 : Hp aw0 own ro aw11 ((pb, PB s3 nil3) :: (kb, ⟨[Pt pb], 73, 0, true, 0⟩) :: (rb, ⟨Z16, 30, 0, true, 0⟩) :: (qb, ⟨s.C, 30, 0, true, 0⟩) :: (X ++ l)) := M12
  refine ldV_x (M12.im (.there .here)) (by repeat constructor) ?_
  refine wait_x M12 fun x aw12 M13 => ?_
  let s4 : Sv := { s3 with Left := x }
  have M13 : Hp aw0 own ro aw12 ((pb, PB s4 nil3) :: (kb, ⟨[Pt pb], 73, 0, true, 0⟩) :: (rb, ⟨Z16, 30, 0, true, 0⟩) :: (qb, ⟨s.C, 30, 0, true, 0⟩) :: (X ++ l)) := M13
  refine ldV_x (M13.im (.there .here)) (by repeat constructor) (ldV_x (M13.im (.there .here)) (by repeat constructor) ?_)
  refine nck_x (fldA_x (fldA_x (ldI_x (M13.im .here) (by repeat constructor) ?_)))
  rw [show s4.N = 1 from f1]
  refine mk1_x M13 (by decide) fun tb aw13 M14 => ?_
  have M14 : Hp aw0 own ro aw13 ((tb, ⟨[.bool false], 4, 1, true, 0⟩) :: (pb, PB s4 nil3) :: (kb, ⟨[Pt pb], 73, 0, true, 0⟩) :: (rb, ⟨Z16, 30, 0, true, 0⟩) :: (qb, ⟨s.C, 30, 0, true, 0⟩) :: (X ++ l)) := M14
  refine again_x (M14.im (.there (.there .here))) (by repeat constructor) (nck_x (fldA_x (fldA_x ?_)))
  refine st_x M14 (.there .here) (by repeat constructor) rfl rfl rfl fun aw14 M15 => ?_
  let s5 : Sv := { s4 with vv := .slice (some ⟨tb, 0, none⟩) 1 1 }
  have M15 : Hp aw0 own ro aw14 ((tb, ⟨[.bool false], 4, 1, true, 0⟩) :: (pb, PB s5 nil3) :: (kb, ⟨[Pt pb], 73, 0, true, 0⟩) :: (rb, ⟨Z16, 30, 0, true, 0⟩) :: (qb, ⟨s.C, 30, 0, true, 0⟩) :: (X ++ l)) := M15
  have ho5 : s5.one := ⟨ho2.d, ho2.l, rfl, ho2.n, ho2.m⟩
  replace f1 : s5.N = 1 := f1
  replace f2 : s5.Self = 0 := f2
  replace f3 : s5.Role = 1 := rfl
  replace f4 : s5.Base = 0 := f4
  replace f5 : s5.Term = 1 := rfl
  replace f6 : s5.Commit = 0 := f6
  replace f7 : s5.dv = dv := f7
  replace f8 : s5.lv = lv := f8
  replace f9 : s5.vv = .slice (some ⟨tb, 0, none⟩) 1 1 := rfl
  replace f10 : s5.nv = .slice (some ⟨nb, 0, none⟩) 1 UNK := f10
  replace f11 : s5.mv = .slice (some ⟨mb, 0, none⟩) 1 UNK := f11
  clear_value s5
  refine ldV_x (M15.im (.there (.there .here))) (by repeat constructor) (nck_x (fldA_x (fldA_x (ldV_x (M15.im (.there .here)) (by repeat constructor) ?_))))
  refine ldV_x (M15.im (.there (.there .here))) (by repeat constructor) (nck_x (fldA_x (fldA_x (ldI_x (M15.im (.there .here)) (by repeat constructor) ?_))))
  rw [f9, f2]
  refine ixS_x (by decide) (by decide) ?_
  refine st_x M15 .here (by repeat constructor) rfl rfl rfl fun aw15 M16 => ?_
  have M16 : Hp aw0 own ro aw15 ((tb, TB) :: (pb, PB s5 nil3) :: (kb, ⟨[Pt pb], 73, 0, true, 0⟩) :: (rb, ⟨Z16, 30, 0, true, 0⟩) :: (qb, ⟨s.C, 30, 0, true, 0⟩) :: (X ++ l)) := M16
  refine ldV_x (M16.im (.there (.there .here))) (by repeat constructor) (nck_x (fldA_x (rd16b (s := s5) (r := [nil3]) (M16.im (.there .here)) ?_)))
  refine ldV_x (M16.im (.there (.there .here))) (by repeat constructor) (nck_x (fldA_x (rd16 (s := s5) (r := [nil3]) (M16.im (.there .here)) ?_)))
  have hl5 : EsS aw0 own ro Lr s5.lv [] := by rw [f8]; exact hlv
  refine last_x (s := s5) (es := []) hl5.len ho5 (by omega) (by rw [f4]; decide) M16.self fun aw16 M17 => ?_
  refine again_x (M17.im (.there (.there .here))) (by repeat constructor) (gt16 (s := s5) (r := [nil3]) (M17.im (.there .here)) ?_)
  refine termAt_x (s := s5) (es := []) (ess_self hl5 M16) ho5 (by omega) (by rw [f4]; decide) (by rw [f4]; decide) (by rw [f4]; decide) M17 (fun p hp => ?_) fun aw17 M18 => ⟨hp_roOk M18, ?_⟩
  · exact List.mem_cons_of_mem _ (List.mem_cons_of_mem _ (List.mem_cons_of_mem _ (List.mem_cons_of_mem _ (List.mem_cons_of_mem _ (List.mem_append_left _ (List.mem_cons_of_mem _ (List.mem_cons_of_mem _ (List.mem_cons_of_mem _ hp))))))))
  replace M18 := hp_comp M16 M18
  refine alc_x M18 fun zb aw18 M19 => st_x M19 .here (by repeat constructor) rfl rfl rfl fun aw19 M20 => ?_
  replace M20 := M20.drop .here
  refine ldV_x (M20.im (.there (.there .here))) (by repeat constructor) ?_
  refine others_x (s := s5) (out := nil3) f1 f2 M20 (.there .here) ?_
  refine ldV_x (M20.im (.there (.there .here))) (by repeat constructor) ?_
  have M21 : Hp aw0 own ro aw19 ((pb, PB s5 nil3) :: (mb, YB [m0]) :: (tb, TB) :: (nb, ⟨[n0], 24, 1, true, 0⟩) :: ((kb, ⟨[Pt pb], 73, 0, true, 0⟩) :: (rb, ⟨Z16, 30, 0, true, 0⟩) :: (qb, ⟨s.C, 30, 0, true, 0⟩) :: (vb, ⟨[v0], 4, 1, true, 0⟩) :: (Lr ++ l))) := by
    have M20' : Hp aw0 own ro aw19 ((tb, TB) :: (pb, PB s5 nil3) :: (kb, ⟨[Pt pb], 73, 0, true, 0⟩) :: (rb, ⟨Z16, 30, 0, true, 0⟩) :: (qb, ⟨s.C, 30, 0, true, 0⟩) :: (((vb, ⟨[v0], 4, 1, true, 0⟩) :: (nb, ⟨[n0], 24, 1, true, 0⟩) :: (mb, YB [m0]) :: Lr) ++ l)) := M20
    exact M20'.perm (by classical exact List.perm_iff_count.2 fun a => by simp only [List.count_append, List.count_cons]; omega)
  refine lead_x (s := s5) (es := []) (S := Lr) (tm := 1) hl5 (by rw [f8]; exact hcap) ho5 f1 f2 f3 f4 (by decide) f5 (by rw [f6]; decide) f9 f10 f11 M21 (fun p hp => List.mem_cons_of_mem _ (List.mem_cons_of_mem _ (List.mem_cons_of_mem _ (List.mem_cons_of_mem _ (List.mem_append_left _ hp))))) fun lv' Ln aw20 h1 h2 h3 M22 => ?_
  let s6 : Sv := { s5 with lv := lv', Role := 2, Lead := 0, Commit := 1 }
  have M22 : Hp aw0 own ro aw20 ((pb, PB s6 nil3) :: (mb, YB [1]) :: (tb, TB) :: (nb, YB [1]) :: (Ln ++ ((kb, ⟨[Pt pb], 73, 0, true, 0⟩) :: (rb, ⟨Z16, 30, 0, true, 0⟩) :: (qb, ⟨s.C, 30, 0, true, 0⟩) :: (vb, ⟨[v0], 4, 1, true, 0⟩) :: (Lr ++ l)))) := M22
  have M23 : Hp aw0 own ro aw20 ((pb, PB s6 nil3) :: (kb, ⟨[Pt pb], 73, 0, true, 0⟩) :: (rb, ⟨Z16, 30, 0, true, 0⟩) :: (qb, ⟨s.C, 30, 0, true, 0⟩) :: (vb, ⟨[v0], 4, 1, true, 0⟩) :: (((mb, YB [1]) :: (tb, TB) :: (nb, YB [1]) :: (Ln ++ Lr)) ++ l)) := M22.perm (by
    classical exact List.perm_iff_count.2 fun a => by simp only [List.count_append, List.count_cons]; omega)
  have ho6 : s6.one := ⟨ho5.d, h3, ho5.v, ho5.n, ho5.m⟩
  replace f1 : s6.N = 1 := f1
  replace f2 : s6.Self = 0 := f2
  replace f3 : s6.Role = 2 := rfl
  replace f4 : s6.Base = 0 := f4
  replace f5 : s6.Term = 1 := f5
  replace f6 : s6.Commit = 1 := rfl
  replace f7 : s6.dv = dv := f7
  replace f8 : s6.lv = lv' := rfl
  replace f9 : s6.vv = .slice (some ⟨tb, 0, none⟩) 1 1 := f9
  replace f10 : s6.nv = .slice (some ⟨nb, 0, none⟩) 1 UNK := f10
  replace f11 : s6.mv = .slice (some ⟨mb, 0, none⟩) 1 UNK := f11
  clear_value s6
  refine ldV_x (M23.im (.there .here)) (by repeat constructor) (nck_x (fldA_x (rd16 (s := s6) (r := [nil3]) (M23.im .here) ?_)))
  refine ldV_x (M23.im (.there .here)) (by repeat constructor) (nck_x (fldA_x (ldV_x (M23.im .here) (by repeat constructor) ?_)))
  refine st_x M23 (.there (.there .here)) (by repeat constructor) rfl rfl ho6.all fun aw21 M24 => ?_
  have M24 : Hp aw0 own ro aw21 ((pb, PB s6 nil3) :: (kb, ⟨[Pt pb], 73, 0, true, 0⟩) :: (rb, ⟨s6.C, 30, 0, true, 0⟩) :: (qb, ⟨s.C, 30, 0, true, 0⟩) :: (vb, ⟨[v0], 4, 1, true, 0⟩) :: (((mb, YB [1]) :: (tb, TB) :: (nb, YB [1]) :: (Ln ++ Lr)) ++ l)) := M24
  refine again_x (M24.im (.there .here)) (by repeat constructor) (again_x (M24.im .here) (by repeat constructor) ?_)
  refine rd16 (s := s6) (r := []) (M24.im (.there (.there .here))) ?_
  refine hQ2 (by omega) s6 ((mb, YB [1]) :: (tb, TB) :: (nb, YB [1]) :: (Ln ++ Lr)) aw21 ⟨?_, ?_, ⟨tb, 1, f9, ?_⟩, ⟨nb, UNK, f10, ?_⟩, ⟨mb, UNK, f11, ?_⟩, ho6.d, ho6.l⟩ f1 f2 f3 f4 f5 f6 (((((M24.drop .here).drop .here).drop .here).drop .here).drop .here)
  · rw [f7]; exact hdv.more fun p hp => List.mem_cons_of_mem _ (List.mem_cons_of_mem _ (List.mem_cons_of_mem _ (List.mem_append_right _ hp)))
  · rw [f8]; exact h1.more fun p hp => List.mem_cons_of_mem _ (List.mem_cons_of_mem _ (List.mem_cons_of_mem _ hp))
  · exact List.mem_cons_of_mem _ (List.mem_cons_self ..)
  · exact List.mem_cons_of_mem _ (List.mem_cons_of_mem _ (List.mem_cons_self ..))
  · exact List.mem_cons_self ..
end
end Go.Proofs.Try
