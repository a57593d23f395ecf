/- BallotAlone: the law's walk. -/
import Derived.Test.YtfdfakapkhflcaaVc8
import Derived.Test.YtfdfakapkhflcaaBaS8
import Derived.Test.YtfdfakapkhflcaaBcE
set_option linter.unusedSimpArgs false
set_option linter.unusedVariables false
set_option linter.unusedSectionVars false
set_option maxRecDepth 100000
namespace Go.Proofs.Try
open Go Go.Am Go.RowKit Go.Oc
variable [SymE]
set_option maxHeartbeats 1000000
section
variable {aw0 aw aw1 : AW} {own : List Nat} {ro l l' S Sc : List (Nat × Blk)} {s : Sv} {es : List En} {E : List PanicEntry → AW → Prop} {ds : List UInt8} {v0 n0 v : Value} {m0 : Int} {vs ns ms : List Value}
inductive CsS (aw0 : AW) (own : List Nat) (ro : List (Nat × Blk)) : Value → List (List UInt8) → Prop
  | nil : CsS aw0 own ro (.slice none 0 0) []
  | emp {b off c : Nat} : CsS aw0 own ro (.slice (some ⟨b, off, none⟩) 0 c) []
  | at {b off c : Nat} {bss : List (List UInt8)} {vs : List Value} (hb : ∀ (aw : AW) (L : List (Nat × Blk)), Hp aw0 own ro aw L → ∃ B, aw.m b = some B ∧ ∀ i v, vs[i]? = some v → B.cells[off + i]? = some v)
      (hs : ∀ (i : Nat) (bs : List UInt8), bss[i]? = some bs → ∃ v, vs[i]? = some v ∧ Rws aw0 own ro [] v bs ∧ Go.Am.one v = true ∧ ∃ q c, v = .slice q bs.length c) : CsS aw0 own ro (.slice (some ⟨b, off, none⟩) bss.length c) bss
theorem CsS.len {bss : List (List UInt8)} (h : CsS aw0 own ro v bss) : ∃ q c, v = .slice q bss.length c := by
  cases h <;> exact ⟨_, _, rfl⟩
theorem CsS.self {bss : List (List UInt8)} (h : CsS aw0 own ro v bss) (M : Hp aw0 own ro aw l) : CsS aw (l.map (·.1)) ro v bss := by
  cases h with
  | nil => exact .nil
  | emp => exact .emp
  | «at» hb hs =>
      refine .at (fun aw' L M' => hb aw' L (hp_comp M M')) fun i bs hi => ?_
      obtain ⟨v, h1, h2, h3, h4⟩ := hs i bs hi
      exact ⟨v, h1, rws_self h2 M, h3, h4⟩
theorem CsS.ix {X : Value → Prop} {bss : List (List UInt8)} {j : Int} {i : Nat} {bs : List UInt8} (h : CsS aw0 own ro v bss) (hj : j = (i : Int)) (hi : bss[i]? = some bs)
    (hX : ∀ b o cv, Rws aw0 own ro [] cv bs → Go.Am.one cv = true → (∃ q c, cv = .slice q bs.length c) → (∀ (aw : AW) (L : List (Nat × Blk)), Hp aw0 own ro aw L → aw.get b o = some cv) → X (.pointer (some ⟨b, o, none⟩))) : ixS v j 1 X := by
  subst hj
  have hlt := (List.getElem?_eq_some_iff.1 hi).1
  cases h with
  | nil => cases hi
  | emp => cases hi
  | «at» hb hs =>
    rename_i b off c vs
    obtain ⟨cv, h1, h2, h3, h4⟩ := hs i bs hi
    refine ⟨b, off, bss.length, c, _, rfl, by omega, by omega, rfl, hX b (off + ((i : Int).toNat) * 1) cv h2 h3 h4 fun aw L M => ?_⟩
    obtain ⟨B, hB, hc⟩ := hb aw L M
    exact get_m hB (by rw [show off + (i : Int).toNat * 1 = off + i by omega]; exact hc _ _ h1)
theorem StS.self (h : StS aw0 own ro S s es ds vs ns ms) (M : Hp aw0 own ro aw l) : StS aw (l.map (·.1)) ro S s es ds vs ns ms :=
  ⟨rws_self h.d M, ess_self h.l M, h.v, h.n, h.m, h.od, h.ol⟩
theorem cells_x {Q : Bool → AW → Prop} {cv : Value} {bss : List (List UInt8)} {sb : Nat} (hn : bss.length ≤ 20) (hQ : ∀ aw, Q true aw) : ∀ (k i : Nat) (aw0 : AW) (own : List Nat) (m0 : Int) (s : Sv) (es : List En) (S l : List (Nat × Blk)) (aw : AW), i + k = bss.length → CsS aw0 own ro cv bss →
    StS aw0 own ro S s es [] [.bool true] [U 1] [U m0] → s.N = 1 → s.Self = 0 → s.Role = 2 → s.Base = 0 → s.Term = 1 → s.Commit = (es.length : Int) → es.length = i + 1 → (∀ e ∈ es, e.cell.length ≤ 2000) → Hp aw0 own ro aw ((sb, ⟨s.C, 30, 0, true, 0⟩) :: l) → (∀ p ∈ S, p ∈ l) →
    S3_2 Q E (1 + k) cv (Pt sb) i aw
  | 0, i, aw0, own, m0, s, es, S, l, aw, hk, hcs, h, f1, f2, f3, f4, f5, f6, he, hcl, M, hS => by
    show S3_2s Q E _ _ _ _ _
    unfold S3_2s
    obtain ⟨q, c, hq⟩ := hcs.len
    have hsl : ∀ K : Int → Prop, K (bss.length : Int) → slen cv K := fun K h => by rw [hq]; exact slen_x h
    exact hsl _ (cnd_0x (decide_eq_false (by omega)) (hQ _))
  | k + 1, i, aw0, own, m0, s, es, S, l, aw, hk, hcs, h, f1, f2, f3, f4, f5, f6, he, hcl, M, hS => by
    show S3_2s Q E (S3_2 Q E (1 + k)) _ _ _ _
    unfold S3_2s
    obtain ⟨q, c, hq⟩ := hcs.len
    have hsl : ∀ K : Int → Prop, K (bss.length : Int) → slen cv K := fun K h => by rw [hq]; exact slen_x h
    have hi : bss[i]? = some bss[i] := List.getElem?_eq_getElem (by omega)
    generalize bss[i] = bs at hi
    refine hsl _ (cnd_1x (decide_eq_true (by omega)) (hcs.ix rfl hi fun b1 o1 v1 r1 t1 q1 g1 => ?_))
    refine ⟨b1, o1, _, rfl, g1 aw _ M, ?_⟩
    obtain ⟨qq1, cc1, hq1⟩ := q1
    have hsl1 : ∀ K : Int → Prop, K (bs.length : Int) → slen v1 K := fun K h => by rw [hq1]; exact slen_x h
    refine hsl1 _ ?_
    by_cases hb : 2000 < bs.length
    · exact cnd_1x (decide_eq_true (by omega)) (hQ _)
    refine cnd_0x (decide_eq_false (by omega)) ?_
    refine rd16 (s := s) (r := []) (M.im .here) ?_
    refine hcs.ix rfl hi fun b2 o2 v2 r2 t2 q2 g2 => ?_
    refine ⟨b2, o2, _, rfl, g2 aw _ M, ?_⟩
    have ew : IntKind.u64.wrap (i : Int) = (i : Int) := by rw [wrap_u64]; omega
    rw [ew]
    have MS := M.self
    have hcs' := hcs.self M
    refine propose_x (s := s) (es := es) (tm := 1) (ses := 3) (num := i) (cell := bs) (Sc := []) (l := (sb, ⟨s.C, 30, 0, true, 0⟩) :: l) (h.self M) f1 f2 f3 f4 (by omega) (fun e he => by have := hcl e he; omega) (by decide) f5 (by omega) rfl rfl (rws_self r2 M) t2 (by omega) q2 MS (fun p hp => List.mem_cons_of_mem _ (hS p hp)) (fun p hp => by cases hp) ?_
    intro s' Sn aw2 h' e1 e2 e3 e4 e5 e6 M2
    refine ⟨hp_roOk M2, ?_⟩
    refine alc_x M2 fun cb aw3 M3 => st_x M3 .here (by repeat constructor) rfl rfl h'.one.all fun aw4 M4 => ?_
    have M4 : Hp aw (((sb, (⟨s.C, 30, 0, true, 0⟩ : Blk)) :: l).map (·.1)) ro aw4 ((cb, ⟨s'.C, 30, 0, true, 0⟩) :: (Sn ++ ((sb, ⟨s.C, 30, 0, true, 0⟩) :: l))) := M4
    refine cnd_0x rfl (slen_x (cnd_0x rfl (cnd_0x ?_ (fldA_x (ldI_x (M4.im .here) (by repeat constructor) (cnd_0x ?_ (fldA_x (ldV_x (M4.im .here) (by repeat constructor) ?_))))))))
    · show (!decide (((es.length + 1 : Nat) : Int) = IntKind.u64.wrap ((i : Int) + 2))) = false
      rw [show IntKind.u64.wrap ((i : Int) + 2) = ((es.length + 1 : Nat) : Int) by rw [wrap_u64]; omega]
      simp
    · show (!decide (s'.Commit = ((es.length + 1 : Nat) : Int))) = false
      rw [e6]; simp
    have hx : (es ++ [(⟨1, 3, i, bs⟩ : En)])[es.length]? = some ⟨1, 3, i, bs⟩ := by simp
    have hj : IntKind.u64.wrap (((es.length + 1 : Nat) : Int) - 1) = (es.length : Int) := by rw [wrap_u64]; omega
    refine ix_e h'.l hj hx fun b3 o3 v3 r3 t3 g3 => ?_
    have hS4 : ∀ p ∈ Sn, p ∈ ((cb, (⟨s'.C, 30, 0, true, 0⟩ : Blk)) :: (Sn ++ ((sb, ⟨s.C, 30, 0, true, 0⟩) :: l))) := fun p hp => List.mem_cons_of_mem _ (List.mem_append_left _ hp)
    obtain ⟨_, _, _, g33⟩ := g3 aw4 _ M4 hS4
    refine fldA_x ⟨b3, o3 + 3, _, rfl, g33, ?_⟩
    refine toS_w (r3 aw4 _ M4 hS4) ?_
    refine hcs'.ix rfl hi fun b4 o4 v4 r4 t4 q4 g4 => ?_
    refine ⟨b4, o4, _, rfl, g4 aw4 _ M4, ?_⟩
    refine toS_w (r4 aw4 _ M4 (fun p hp => by cases hp)) ?_
    refine cnd_0x (by simp) (fldA_x (ldV_x (M4.im .here) (by repeat constructor) ?_))
    refine ix_e h'.l hj hx fun b5 o5 v5 r5 t5 g5 => ?_
    obtain ⟨g50, _⟩ := g5 aw4 _ M4 hS4
    refine fldA_x ⟨b5, o5 + 0, _, rfl, g50, ?_⟩
    refine cnd_0x rfl (rd16 (s := s') (r := []) (M4.im .here) ?_)
    have M5 : Hp aw (((sb, (⟨s.C, 30, 0, true, 0⟩ : Blk)) :: l).map (·.1)) ro aw4 ((sb, ⟨s.C, 30, 0, true, 0⟩) :: ((cb, ⟨s'.C, 30, 0, true, 0⟩) :: (Sn ++ l))) := M4.perm (by
      classical exact List.perm_iff_count.2 fun a => by simp only [List.count_append, List.count_cons]; omega)
    refine st_x M5 .here (by repeat constructor) rfl rfl h'.one.all fun aw5 M6 => ?_
    rw [i64_in (n := (i : Int) + 1) (by omega) (by omega), show (i : Int) + 1 = ((i + 1 : Nat) : Int) by omega]
    refine cells_x hn hQ k (i + 1) aw _ _ s' _ Sn ((cb, ⟨s'.C, 30, 0, true, 0⟩) :: (Sn ++ l)) aw5 (by omega) hcs' h' e1 e2 e3 e4 (by rw [e5]; exact f5) (by rw [e6]; simp) (by simp; omega) (fun e he => ?_) M6 (fun p hp => List.mem_cons_of_mem _ (List.mem_append_left _ hp))
    rcases List.mem_append.1 he with he | he
    · exact hcl e he
    · obtain rfl := List.mem_singleton.1 he
      show bs.length ≤ 2000
      omega
end
end Go.Proofs.Try
