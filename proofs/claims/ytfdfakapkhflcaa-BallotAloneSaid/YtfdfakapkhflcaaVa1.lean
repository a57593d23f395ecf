/- A range over slices.Values, whatever stands in memory. -/
import Derived.Test.YtfdfakapkhflcaaBq6
set_option linter.unusedSimpArgs false
set_option linter.unusedVariables false
set_option linter.unusedSectionVars false
namespace Go.Am
open Go Go.RowKit Go.Ri
variable [SymE] [FT] [FTok]
inductive VlA (P : Program) (N : Nat) (p1 : Tmp) (assign body : Code) (b0 o0 : Nat) (ρ : Env) : Nat → Nat → AW → AW → Prop
  | done {i : Nat} {aw : AW} : VlA P N p1 assign body b0 o0 ρ 0 i aw aw
  | step {n i : Nat} {x : Value} {ρ1 ρ2 : Env} {aw aw1 aw2 aw' : AW} (hx : aw.get b0 (o0 + i * 1) = some x) (h1 : ∀ kk, Go.Ri.Seg P N (.code assign :: kk) kk (ρ.put (some p1) x) ρ1 aw aw1) (h2 : ∀ kk, Go.Ri.Seg P N (.code body :: kk) kk ρ1 ρ2 aw1 aw2)
      (r : VlA P N p1 assign body b0 o0 ρ n (i + 1) aw2 aw') : VlA P N p1 assign body b0 o0 ρ (n + 1) i aw aw'
section
variable {P : Program} {N : Nat} {ops : Array Oper} {sh : List OpD3} {i d : Nat} {rest : List Nat} {k : List Item} {ρ : Env} {aw aw' : AW} {v : Value} {oq : Op}
theorem _root_.Go.Ri.Seg.shpV (h : shp ops = sh) (hi : sh[i]? = some (oq, some d, none)) (hd : d < N) (hnd : ∀ c, oq ≠ .defer c) (he : ∀ o : Oper, o.op = oq → OpV P o ρ aw v aw') : Go.Ri.Seg P N (.inRegion ops (i :: rest) :: k) (.inRegion ops rest :: k) ρ (ρ.put (some d) v) aw aw' := by
  obtain ⟨o, h1, h2, h3, h4⟩ := shp_get h hi
  have := Go.Ri.Seg.val (k := k) (rest := rest) (N := N) h1 h4 (fun d' h' => by rw [h3] at h'; obtain rfl := Option.some.inj h'; exact hd) (by rw [h2]; exact hnd) (he o h2)
  rw [h3] at this
  exact this
end
section
variable {P : Program} {i1 i2 i3 i4 : Nat} {o1 o2 o3 o4 : Array Oper} {aw : AW}
theorem vl_headA {tk tl : TypeId} (h1 : shp o1 = sh1 tk tl) {ρ : Env} {n m : Int} (h7 : ρ 7 = .int .i64 n) (h6 : ρ 6 = .int .i64 m) :
    Go.Ri.Seg P 16 (vlH i1 i2 i3 i4 o1 o2 o3 o4) (.code (if decide (n < m) then .skip else .exit 0) :: .code (.seq (.block 1 (.seq (.region i2 o2 false) (.seq (.region i3 o3 false) (.cond (.tmp 14) .ret .skip)))) (.region i4 o4 false)) :: [.inLoop (vlB i1 i2 i3 i4 o1 o2 o3 o4), .inBlock 0])
      ρ (ρ.put (some 8) (.bool (decide (n < m)))) aw aw := by
  refine (Go.Ri.Seg.one fun _ _ _ _ => stepR_seq).trans ((Go.Ri.Seg.regionN (shp_size h1)).trans ?_)
  refine (Go.Ri.Seg.shpV (N := 16) (i := 0) (rest := []) h1 rfl (by decide) (fun c => by simp) (aw' := aw) (v := .bool (decide (n < m))) (fun o ho => opv_lt ho rfl rfl h7 h6)).trans ?_
  exact Go.Ri.Seg.regionEnd.trans ((Go.Ri.Seg.one fun _ _ _ _ => stepR_seq).trans (Go.Ri.Seg.cond rfl (ev_put _ _ _)))
theorem vl_midA {T e el tm : TypeId} {dd : TypeDesc} {ts : Array TypeId} (h2 : shp o2 = sh2 T e) (h3 : shp o3 = sh3 tm ts) (hT : P.underlying T = some (.slice el)) (hsz : (P.info? el).map (·.size) = some 1) (hu : P.underlying e = some dd) (ha : aggT dd = false)
    {ρ : Env} {i b0 o0 L c : Nat} {x : Value} {k : List Item} (hi : i < L) (q5 : ρ 5 = .slice (some ⟨b0, o0, none⟩) L c) (q7 : ρ 7 = .int .i64 (i : Int)) (hx : aw.get b0 (o0 + i * 1) = some x) :
    ∃ ρ', Go.Ri.Seg P 16 (.code .skip :: .code (.seq (.block 1 (.seq (.region i2 o2 false) (.seq (.region i3 o3 false) (.cond (.tmp 14) .ret .skip)))) (.region i4 o4 false)) :: k)
      (.inRegion o3 [2, 3] :: .code (.cond (.tmp 14) .ret .skip) :: .inBlock 1 :: .code (.region i4 o4 false) :: k) ρ ρ' aw aw ∧ ρ' 0 = ρ 0 ∧ ρ' 5 = ρ 5 ∧ ρ' 6 = ρ 6 ∧ ρ' 7 = ρ 7 ∧ ρ' 11 = ρ 0 ∧ ρ' 12 = x := by
  let p : Value := .pointer (some ⟨b0, o0 + i * 1, none⟩)
  refine ⟨(((((ρ.put (some 9) p).put (some 10) x).put (some 4) x).put (some 11) (ρ 0)).put (some 12) x), ?_, ?_⟩
  · refine (Go.Ri.Seg.one fun _ _ _ _ => stepR_skip).trans ?_
    refine (Go.Ri.Seg.one fun _ _ _ _ => stepR_seq).trans ?_
    refine (Go.Ri.Seg.one fun _ _ _ _ => stepR_block).trans ?_
    refine (Go.Ri.Seg.one fun _ _ _ _ => stepR_seq).trans ?_
    refine (Go.Ri.Seg.regionN (shp_size h2)).trans ?_
    refine (Go.Ri.Seg.shpV (N := 16) (i := 0) (rest := [1, 2]) h2 rfl (by decide) (fun c => by simp) (v := p) (aw' := aw) (fun o ho => ov_ixS ho rfl rfl hT hsz q5 q7 rfl (by omega) (by omega) rfl)).trans ?_
    refine (Go.Ri.Seg.shpV (N := 16) (i := 1) (rest := [2]) h2 rfl (by decide) (fun c => by simp) (v := x) (aw' := aw) (fun o ho => ov_ldV ho hu ha rfl (ev_put _ _ _) rfl hx)).trans ?_
    refine (Go.Ri.Seg.shpV (N := 16) (i := 2) (rest := []) h2 rfl (by decide) (fun c => by simp) (v := x) (aw' := aw) (fun o ho => opv_assign ho rfl (ev_put _ _ _))).trans ?_
    refine Go.Ri.Seg.regionEnd.trans ?_
    refine (Go.Ri.Seg.one fun _ _ _ _ => stepR_seq).trans ?_
    refine (Go.Ri.Seg.regionN (shp_size h3)).trans ?_
    refine (Go.Ri.Seg.shpV (N := 16) (i := 0) (rest := [1, 2, 3]) h3 rfl (by decide) (fun c => by simp) (v := ρ 0) (aw' := aw) (fun o ho => opv_move ho rfl ?_)).trans ?_
    · show (((ρ.put (some 9) p).put (some 10) x).put (some 4) x) 0 = _
      rw [put_ne _ _ (by decide), put_ne _ _ (by decide), put_ne _ _ (by decide)]
    refine Go.Ri.Seg.shpV (N := 16) (i := 1) (rest := [2, 3]) h3 rfl (by decide) (fun c => by simp) (v := x) (aw' := aw) (fun o ho => opv_move ho rfl ?_)
    show ((((ρ.put (some 9) p).put (some 10) x).put (some 4) x).put (some 11) (ρ 0)) 4 = _
    rw [put_ne _ _ (by decide), put_eq]
  · refine ⟨?_, ?_, ?_, ?_, ?_, put_eq _ _ _⟩
    all_goals simp only [Env.put_some]
    all_goals rfl
theorem vl_tailA {tm tn tj : TypeId} {ts : Array TypeId} (h3 : shp o3 = sh3 tm ts) (h4 : shp o4 = sh4 tn tj) {ρ : Env} {n : Int} (q7 : ρ 7 = .int .i64 n) (q13 : ρ 13 = .bool true) :
    ∃ ρ', Go.Ri.Seg P 16 (.inRegion o3 [3] :: .code (.cond (.tmp 14) .ret .skip) :: .inBlock 1 :: .code (.region i4 o4 false) :: [.inLoop (vlB i1 i2 i3 i4 o1 o2 o3 o4), .inBlock 0]) (vlH i1 i2 i3 i4 o1 o2 o3 o4) ρ ρ' aw aw ∧ ρ' 0 = ρ 0 ∧ ρ' 5 = ρ 5 ∧ ρ' 6 = ρ 6 ∧ ρ' 7 = .int .i64 (IntKind.i64.wrap (n + 1)) := by
  refine ⟨(((ρ.put (some 14) (.bool false)).put (some 15) (.int .i64 (IntKind.i64.wrap (n + 1)))).put (some 7) (.int .i64 (IntKind.i64.wrap (n + 1)))), ?_, ?_⟩
  · refine (Go.Ri.Seg.shpV (N := 16) (i := 3) (rest := []) h3 rfl (by decide) (fun c => by simp) (v := .bool false) (aw' := aw) (fun o ho => opv_not (b := true) ho rfl q13)).trans ?_
    refine Go.Ri.Seg.regionEnd.trans ?_
    refine (Go.Ri.Seg.cond (q := false) rfl (ev_put _ _ _)).trans ?_
    refine (Go.Ri.Seg.one fun _ _ _ _ => stepR_skip).trans ?_
    refine (Go.Ri.Seg.one fun _ _ _ _ => stepR_inBlock).trans ?_
    refine (Go.Ri.Seg.regionN (shp_size h4)).trans ?_
    refine (Go.Ri.Seg.shpV (N := 16) (i := 0) (rest := [1]) h4 rfl (by decide) (fun c => by simp) (v := .int .i64 (IntKind.i64.wrap (n + 1))) (aw' := aw) (fun o ho => opv_add ho rfl rfl ?_ rfl)).trans ?_
    · show (ρ.put (some 14) (.bool false)) 7 = _
      rw [put_ne _ _ (by decide), q7]
    refine (Go.Ri.Seg.shpV (N := 16) (i := 1) (rest := []) h4 rfl (by decide) (fun c => by simp) (v := .int .i64 (IntKind.i64.wrap (n + 1))) (aw' := aw) (fun o ho => opv_move ho rfl (ev_put _ _ _))).trans ?_
    exact Go.Ri.Seg.regionEnd.trans (Go.Ri.Seg.one fun _ _ _ _ => stepR_inLoop)
  · refine ⟨?_, ?_, ?_, put_eq _ _ _⟩
    all_goals simp only [Env.put_some]
    all_goals rfl
structure InvA (P : Program) (base : Nat → Prop) (ws : World) (aw : AW) (s : Inj) (l : Nat) (r : Loop) (w : World) : Prop where
  rel : Rel P.globals.size base ws s aw w
  rcd : w.heap[l]? = some (.loop r)
theorem rnd_specA {N : Nat} {assign body : Code} {ρ ρ1 ρ2 : Env} {aw aw1 aw2 : AW} (h1 : ∀ kk, Go.Ri.Seg P N (.code assign :: kk) kk ρ ρ1 aw aw1) (h2 : ∀ kk, Go.Ri.Seg P N (.code body :: kk) kk ρ1 ρ2 aw1 aw2) {base : Nat → Prop} {ws w : World} {s : Inj} {l : Nat} {r : Loop} (hi : InvA P base ws aw s l r w) (hls : ws.heap.size ≤ l) (hlb : ¬ base l)
    (hr : r.state = .ready) (hra : r.assign = assign) (hrb : r.body = body) (hrp : r.pending = none) {tmps : Array Value} (he : ∀ t, VR s (ρ t) (tmps.getD t undef)) (hn : tmps.size = N) (c : Frame) (cs : List Frame) :
    ∃ s' w', s.le s' ∧ Steps P (lone (Frame.round l r.fn tmps r.assign r.body .normal) (c :: cs) w) (lone (c.finish (.bool true)) cs w') ∧ InvA P base ws aw2 s' l r w' := by
  let b : Frame := { (default : Frame) with fn := r.fn, kind := .normal, roundOf := some l }
  have hb0 : Frame.round l r.fn tmps r.assign r.body .normal = b.atR { tmps := tmps, defers := [] } ([.code assign] ++ [.beginRound, .code body]) := by
    simp [Frame.round, Frame.atR, b, hra, hrb]
  rw [hb0]
  obtain ⟨s1, a1, w1, k1, k2, k3, k4, k5, k6⟩ := h1 [.beginRound, .code body] base s { tmps := tmps, defers := [] } w b (c :: cs) hi.rel.re he hn
  have hl1 : w1.heap[l]? = some (.loop r) := k3.below.other l _ hi.rcd rfl
  have hbr := run_beginRound (P := P) hl1 hr
  have hs1 : step P (lone (b.atR a1 [.beginRound, .code body]) (c :: cs) w1) = .next (lone (b.atR a1 [.code body]) (c :: cs) _) := stepR_beginRound (l := l) rfl hbr
  have hrel1 : Rel P.globals.size base ws s1 aw1 (w1.putObj l (.loop { r with state := .busy })) := (hi.rel.back k3).putObj hl1 rfl hls hlb _
  obtain ⟨s2, a2, w2, j1, j2, j3, j4, j5, j6⟩ := h2 [] base s1 a1 _ b (c :: cs) hrel1.re k4 k5
  have hlt : l < w1.heap.size := (Array.getElem?_eq_some_iff.1 hl1).1
  have hl2 : w2.heap[l]? = some (.loop { r with state := .busy }) := j3.below.other l _ (World.putObj_heap_same hlt) rfl
  have her := run_endRound (P := P) none hl2
  have hs2 : step P (lone (b.atR a2 []) (c :: cs) w2) = .next (lone (c.finish (.bool true)) cs _) := stepR_round_end (l := l) rfl rfl her
  have hlt2 : l < w2.heap.size := (Array.getElem?_eq_some_iff.1 hl2).1
  have hrr : ({ ({ r with state := .busy } : Loop) with state := if (none : Option Code).isNone then .ready else .done, pending := none } : Loop) = r := by
    cases r; simp only at hr hrp; subst hr; subst hrp; rfl
  refine ⟨s2, _, Inj.le_trans k1 j1, Steps.trans k2 (.head hs1 (Steps.trans j2 (.one hs2))), (hrel1.back j3).putObj hl2 rfl hls hlb _, ?_⟩
  rw [World.putObj_heap_same hlt2, hrr]
theorem vals_loopA {N : Nat} {T e el tk tl tm tn tj : TypeId} {dd : TypeDesc} {ts : Array TypeId} {p1 : Nat} {assign body : Code} {L b0 o0 c : Nat} {ρ : Env} (hp1 : p1 < N) (hT : P.underlying T = some (.slice el)) (hsz : (P.info? el).map (·.size) = some 1) (hu : P.underlying e = some dd) (ha : aggT dd = false)
    (h1 : shp o1 = sh1 tk tl) (h2 : shp o2 = sh2 T e) (h3 : shp o3 = sh3 tm ts) (h4 : shp o4 = sh4 tn tj) (hLb : L ≤ 4611686018427387904)
    {base : Nat → Prop} {ws : World} {l : Nat} {r : Loop} (hls : ws.heap.size ≤ l) (hlb : ¬ base l) (hr : r.state = .ready) (hra : r.assign = assign) (hrb : r.body = body) (hrp : r.pending = none) (hrn : r.tmps.size = N) (hrs : r.params = #[p1]) :
    ∀ (n i : Nat) (aw aw' : AW), i + n = L → VlA P N p1 assign body b0 o0 ρ n i aw aw' → ∀ {s : Inj} {w : World} (hi : InvA P base ws aw s l r w) (hrt : ∀ t, VR s (ρ t) (r.tmps.getD t undef)) {ρB : Env} {aB : Act}
      (he : ∀ t, VR s (ρB t) (aB.tmps.getD t undef)) (hn : aB.tmps.size = 16) (q0 : ρB 0 = .func (.yield l) #[] #[]) (q5 : ρB 5 = .slice (some ⟨b0, o0, none⟩) L c) (q6 : ρB 6 = .int .i64 (L : Int)) (q7 : ρB 7 = .int .i64 (i : Int)) (b : Frame) (cs : List Frame),
      ∃ s' w' aB', s.le s' ∧ Steps P (lone (b.atR aB (vlH i1 i2 i3 i4 o1 o2 o3 o4)) cs w) (lone (b.atR aB' []) cs w') ∧ InvA P base ws aw' s' l r w' ∧ aB'.defers = aB.defers ∧ aB'.tmps.size = 16
  | 0, i, aw, aw', hle, h, s, w, hi, hrt, ρB, aB, he, hn, q0, q5, q6, q7, b, cs => by
    cases h
    obtain ⟨s1, a1, w1, k1, k2, k3, k4, k5, k6⟩ := vl_headA (P := P) (i1 := i1) (i2 := i2) (i3 := i3) (i4 := i4) (o2 := o2) (o3 := o3) (o4 := o4) (aw := aw) h1 q7 q6 base s aB w b cs hi.rel.re he hn
    have hdec : decide ((i : Int) < (L : Int)) = false := by simp; omega
    rw [hdec] at k2
    have hx : step P (lone (b.atR a1 (.code (.exit 0) :: .code (.seq (.block 1 (.seq (.region i2 o2 false) (.seq (.region i3 o3 false) (.cond (.tmp 14) .ret .skip)))) (.region i4 o4 false)) :: [.inLoop (vlB i1 i2 i3 i4 o1 o2 o3 o4), .inBlock 0])) cs w1) = .next (lone (b.atR a1 []) cs w1) := stepR_exit rfl
    refine ⟨s1, w1, a1, k1, Steps.trans k2 (.one hx), ⟨hi.rel.back k3, k3.below.other l _ hi.rcd rfl⟩, k6, k5⟩
  | n + 1, i, aw, aw', hle, h, s, w, hi, hrt, ρB, aB, he, hn, q0, q5, q6, q7, b, cs => by
    obtain ⟨x, ρr1, ρr2, aw1, aw2, hx, hh1, hh2, hr'⟩ : ∃ x ρ1 ρ2 aw1 aw2, aw.get b0 (o0 + i * 1) = some x ∧ (∀ kk, Go.Ri.Seg P N (.code assign :: kk) kk (ρ.put (some p1) x) ρ1 aw aw1) ∧ (∀ kk, Go.Ri.Seg P N (.code body :: kk) kk ρ1 ρ2 aw1 aw2) ∧ VlA P N p1 assign body b0 o0 ρ n (i + 1) aw2 aw' := by
      cases h with
      | step hx h1 h2 r => exact ⟨_, _, _, _, _, hx, h1, h2, r⟩
    obtain ⟨s1, a1, w1, k1, k2, k3, k4, k5, k6⟩ := vl_headA (P := P) (i1 := i1) (i2 := i2) (i3 := i3) (i4 := i4) (o2 := o2) (o3 := o3) (o4 := o4) (aw := aw) h1 q7 q6 base s aB w b cs hi.rel.re he hn
    have hdec : decide ((i : Int) < (L : Int)) = true := by simp; omega
    rw [hdec] at k2 k4
    simp only [if_true] at k2
    have e0 : ∀ t, t ≠ 8 → (ρB.put (some 8) (.bool true)) t = ρB t := fun t t8 => by rw [put_ne _ _ t8]
    obtain ⟨ρ8, hmid, m0, m5, m6, m7, m11, m12⟩ := vl_midA (P := P) (i2 := i2) (i3 := i3) (i4 := i4) (o4 := o4) (k := [.inLoop (vlB i1 i2 i3 i4 o1 o2 o3 o4), .inBlock 0]) h2 h3 hT hsz hu ha (L := L) (c := c) (show i < L by omega) (ρ := ρB.put (some 8) (.bool true)) (by rw [e0 5 (by decide)]; exact q5) (by rw [e0 7 (by decide)]; exact q7) hx
    rw [e0 0 (by decide)] at m0 m11
    rw [e0 5 (by decide)] at m5
    rw [e0 6 (by decide)] at m6
    rw [e0 7 (by decide)] at m7
    obtain ⟨s2, a2, w2, j1, j2, j3, j4, j5, j6⟩ := hmid base s1 a1 w1 b cs k3.re k4 k5
    have hi2 : InvA P base ws aw s2 l r w2 := ⟨(hi.rel.back k3).back j3, j3.below.other l _ (k3.below.other l _ hi.rcd rfl) rfl⟩
    obtain ⟨o, g1, g2, g3, g4⟩ := shp_get (i := 2) h3 rfl
    have h11 : a2.tmps.getD 11 undef = .func (.yield l) #[] #[] := by
      have := j4 11
      rw [m11, q0] at this
      obtain ⟨a', c', e1, e2, e3⟩ := this.func_inv
      rw [e1]
      have ea : a' = #[] := by
        have hh := e2.length
        exact Array.toList_eq_nil_iff.1 (List.length_eq_zero_iff.1 hh.symm)
      have ec : c' = #[] := by
        have hh := e3.length
        exact Array.toList_eq_nil_iff.1 (List.length_eq_zero_iff.1 hh.symm)
      rw [ea, ec]
    have hy := step_yield1 (P := P) (b := b) (a := a2) (rest := [3]) (k := .code (.cond (.tmp 14) .ret .skip) :: .inBlock 1 :: .code (.region i4 o4 false) :: [.inLoop (vlB i1 i2 i3 i4 o1 o2 o3 o4), .inBlock 0]) (cs := cs) g1 g2 g4 h11 hi2.rcd hrs
    have henv : ∀ t, VR s2 ((ρ.put (some p1) x) t) ((r.tmps.setIfInBounds p1 (a2.tmps.getD 12 undef)).getD t undef) := by
      have b2 : VR s2 x (a2.tmps.getD 12 undef) := by have := j4 12; rw [m12] at this; exact this
      exact put_env (a := { tmps := r.tmps, defers := [] }) (dst := some p1) (fun t => ((hrt t).mono k1).mono j1) (fun d hd => by obtain rfl := Option.some.inj hd; rw [hrn]; exact hp1) b2
    obtain ⟨s3, w3, n1, n2, n3⟩ := rnd_specA hh1 hh2 hi2 hls hlb hr hra hrb hrp henv (by simp [hrn]) (b.atR a2 (.inRegion o3 [2, 3] :: .code (.cond (.tmp 14) .ret .skip) :: .inBlock 1 :: .code (.region i4 o4 false) :: [.inLoop (vlB i1 i2 i3 i4 o1 o2 o3 o4), .inBlock 0])) cs
    rw [Frame.finish_atR, g1] at n2
    simp only [Option.bind_some, g3] at n2
    have he3 : ∀ t, VR s3 ((ρ8.put (some 13) (.bool true)) t) ((a2.put (some 13) (.bool true)).tmps.getD t undef) := put_env (fun t => (j4 t).mono n1) (fun d hd => by obtain rfl := Option.some.inj hd; rw [j5]; decide) (.bool true)
    obtain ⟨ρ9, htail, u0, u5, u6, u7⟩ := vl_tailA (P := P) (i1 := i1) (i2 := i2) (i3 := i3) (i4 := i4) (o1 := o1) (o2 := o2) (aw := aw2) h3 h4 (ρ := ρ8.put (some 13) (.bool true)) (n := (i : Int)) (by rw [put_ne _ _ (by decide), m7, q7]) (put_eq _ _ _)
    obtain ⟨s4, a4, w4, v1, v2, v3, v4, v5, v6⟩ := htail base s3 (a2.put (some 13) (.bool true)) w3 b cs n3.rel.re he3 (by rw [put_size]; exact j5)
    rw [put_ne _ _ (by decide), m0, q0] at u0
    rw [put_ne _ _ (by decide), m5, q5] at u5
    rw [put_ne _ _ (by decide), m6, q6] at u6
    rw [IntWalk.i64_in _ (by omega)] at u7
    have e7 : (i : Int) + 1 = ((i + 1 : Nat) : Int) := rfl
    rw [e7] at u7
    obtain ⟨s5, w5, a5, x1, x2, x3, x4, x5⟩ := vals_loopA hp1 hT hsz hu ha h1 h2 h3 h4 hLb hls hlb hr hra hrb hrp hrn hrs n (i + 1) aw2 aw' (by omega) hr' ⟨n3.rel.back v3, v3.below.other l _ n3.rcd rfl⟩ (fun t => ((((hrt t).mono k1).mono j1).mono n1).mono v1) v4 v5 u0 u5 u6 u7 b cs
    refine ⟨s5, w5, a5, Inj.le_trans k1 (Inj.le_trans j1 (Inj.le_trans n1 (Inj.le_trans v1 x1))), Steps.trans k2 (Steps.trans j2 (.head hy (Steps.trans n2 (Steps.trans v2 x2)))), x3, ?_, x5⟩
    rw [x4, v6, put_defers, j6, k6]
theorem ago_valsA {fB : FuncId} {T e el : TypeId} {dd : TypeDesc} (hB : IsVals P fB T e) {N : Nat} {k : List Item} {ρ : Env} {ds : List Deferred} {aw aw' : AW} {R : ADone → Env → List Deferred → AW → Prop} {g : Operand} {p1 : Nat} {assign body : Code} {bx L c b0 o0 : Nat}
    (hgo : okOpd P.globals.size g = true) (hg : ρ.eval g = .func (.func fB) ⟨[]⟩ ⟨[.pointer (some ⟨bx, 0, none⟩)]⟩) (hT : P.underlying T = some (.slice el)) (hsz : (P.info? el).map (·.size) = some 1) (hu : P.underlying e = some dd) (ha : aggT dd = false)
    (hs : aw.get bx 0 = some (.slice (some ⟨b0, o0, none⟩) L c)) (hL : L ≤ 4611686018427387904) (hp1 : p1 < N)
    (hr : VlA P N p1 assign body b0 o0 ρ L 0 aw aw') (h : AGo P N k ρ ds aw' R) : AGo P N (.code (.rangeFunc g #[p1] assign body) :: k) ρ ds aw R := by
  obtain ⟨fn, i0, i1, i2, i3, i4, o0', o1, o2, o3, o4, tj, tk, tl, tm, tn, ts, hfn, hname, hnt, hres, hbody, h0, h1, h2, h3, h4⟩ := hB.ex
  intro base w0 s a w b cs hst
  let bF : Frame := { b with roundOf := none }
  have hat : ∀ (a : Act) (t : List Item), b.at a t = bF.atR a t := fun a t => (Frame.atR_of_none (b := bF) rfl a t).symm
  have hv := hst.eval hgo
  rw [hg] at hv
  obtain ⟨a', c', e1, e2, e3⟩ := hv.func_inv
  have ea : a' = #[] := Array.toList_eq_nil_iff.1 (List.length_eq_zero_iff.1 e2.length.symm)
  subst ea
  obtain ⟨x, rfl⟩ : ∃ x, c' = #[x] := by
    have := e3.length
    rcases c' with ⟨l⟩
    match l, this with
    | [x], _ => exact ⟨x, rfl⟩
  have hx : VR s (.pointer (some ⟨bx, 0, none⟩)) x := by cases e3 with | cons h t => exact h
  let wd : World := w.alloc (.deferred (some []))
  let l : Nat := w.heap.size + 1
  let r : Loop := { state := .ready, pending := none, fn := bF.fn, tmps := a.tmps, params := #[p1], assign, body, defers := w.heap.size }
  let w1 : World := wd.alloc (.loop r)
  let mk : Deferred := { target := .collected w.heap.size, args := #[] }
  have hel : (Instr.enterLoop bF.fn a.tmps #[p1] assign body bF.roundOf).run P w = .ok (l, [mk]) w1 := run_enterLoop_outer ..
  have hres' : (resolve a.eval (rangeCall g l) 0).run P w1 = .ok { target := .fn (.func fB) #[x], args := #[.func (.yield l) #[] #[]] } w1 := by
    have hc : a.eval (.const (.func (.yield l) #[] #[])) = .func (.yield l) #[] #[] := rfl
    simp [resolve, rangeCall, e1, hc, Deferred.ofValue]
  have hinv : (invoke (.fn (.func fB) #[x]) #[.func (.yield l) #[] #[]]).run P w1 = .ok (.enter fB #[.func (.yield l) #[] #[], x]) w1 := by
    simp only [invoke]
    rw [run_callFunc hfn hname hbody]
    rfl
  have hs0 := stepR_rangeFunc (P := P) (b := bF) (a := a) (k := k) (cs := cs) (w := w) hel hres' hinv
  have hszw : wd.heap.size = l := by simp [wd, l]
  have hr1 : Rel P.globals.size base wd s aw w1 := (hst.rel.re.allocObj _).re.allocObj _
  have hrd : w1.heap[l]? = some (.loop r) := by
    rw [← hszw]; exact World.alloc_heap_new wd _
  have hlb : ¬ base l := fun hb => by have := hst.rel.hbase l hb; simp only [l] at this; omega
  obtain ⟨henv, hnn⟩ := init_env (s := s) (args := [.func (.yield l) #[] #[], .pointer (some ⟨bx, 0, none⟩)]) (args' := [.func (.yield l) #[] #[], x]) (N := 16) (.cons (.func _ .nil .nil) (.cons hx .nil)) (by simp)
  let b2 : Frame := { (default : Frame) with fn := fB, kind := .normal, roundOf := none }
  let a2 : Act := { tmps := #[.func (.yield l) #[] #[], x] ++ Array.replicate (16 - 2) undef, defers := [] }
  have henter : Frame.enter P fB #[.func (.yield l) #[] #[], x] .normal = b2.atR a2 [.code (.seq (.region i0 o0' false) (.block 0 (.loop (vlB i1 i2 i3 i4 o1 o2 o3 o4))))] := by
    simp [Frame.enter, Frame.atR, hfn, hbody, hnt, b2, a2]
  have seg0 : Go.Ri.Seg P 16 [.code (.seq (.region i0 o0' false) (.block 0 (.loop (vlB i1 i2 i3 i4 o1 o2 o3 o4))))] (vlH i1 i2 i3 i4 o1 o2 o3 o4) (Env.init [.func (.yield l) #[] #[], .pointer (some ⟨bx, 0, none⟩)])
      ((((Env.init [.func (.yield l) #[] #[], .pointer (some ⟨bx, 0, none⟩)]).put (some 5) (.slice (some ⟨b0, o0, none⟩) L c)).put (some 6) (.int .i64 (L : Int))).put (some 7) (.int .i64 0)) aw aw := by
    refine (Go.Ri.Seg.one fun _ _ _ _ => stepR_seq).trans ?_
    refine (Go.Ri.Seg.regionN (shp_size h0)).trans ?_
    refine (Go.Ri.Seg.shpV (N := 16) (i := 0) (rest := [1, 2]) h0 rfl (by decide) (fun c => by simp) (v := .slice (some ⟨b0, o0, none⟩) L c) (aw' := aw) (fun o ho => ov_ldV ho hT rfl rfl (p := .pointer (some ⟨bx, 0, none⟩)) rfl rfl hs)).trans ?_
    refine (Go.Ri.Seg.shpV (N := 16) (i := 1) (rest := [2]) h0 rfl (by decide) (fun c => by simp) (aw' := aw) (v := .int .i64 (L : Int)) (fun o ho => opv_len ho rfl rfl hT (ev_put _ _ _))).trans ?_
    refine (Go.Ri.Seg.shpV (N := 16) (i := 2) (rest := []) h0 rfl (by decide) (fun c => by simp) (v := .int .i64 0) (aw' := aw) (fun o ho => opv_move ho rfl rfl)).trans ?_
    refine Go.Ri.Seg.regionEnd.trans ?_
    exact (Go.Ri.Seg.one fun _ _ _ _ => stepR_block).trans (Go.Ri.Seg.one fun _ _ _ _ => stepR_loop)
  obtain ⟨s1, a3, w2, k1, k2, k3, k4, k5, k6⟩ := seg0 base s a2 w1 b2 (bF.atR { a with defers := [mk] ++ a.defers } (.inRangeFunc l :: k) :: cs) hr1.re henv hnn
  obtain ⟨s2, w3, a4, j1, j2, j3, j4, j5⟩ := vals_loopA hp1 hT hsz hu ha h1 h2 h3 h4 hL (Nat.le_of_eq hszw) hlb rfl rfl rfl rfl hst.size rfl L 0 aw aw' (Nat.zero_add L) hr ⟨hr1.back k3, k3.below.other l _ hrd rfl⟩ (fun t => (hst.env t).mono k1) k4 k5
    (by simp only [Env.put_some]; rfl) (by simp only [Env.put_some]; rfl) (by simp only [Env.put_some]; rfl) (put_eq _ _ _) b2 (bF.atR { a with defers := [mk] ++ a.defers } (.inRangeFunc l :: k) :: cs)
  have hs1 : step P (lone (b2.atR a4 []) (bF.atR { a with defers := [mk] ++ a.defers } (.inRangeFunc l :: k) :: cs) w3) = .next (lone { b2.atR a4 [] with mode := .returning } _ w3) := stepR_end rfl
  obtain ⟨v', hv1, _⟩ := ares_0 (P := P) (N := 16) (ρ := fun _ => undef) (aw := aw') hres base wd s2 (Array.replicate 16 undef) w3 j3.rel (fun t => by
    have : (Array.replicate 16 undef).getD t undef = undef := by simp [Array.getD]
    rw [this]; exact VR.undef) (by simp)
  have hlv : Frame.leaving P { b2.atR a4 [] with mode := .returning } w3 (.returned v') := by
    refine ⟨rfl, by show a4.defers = []; rw [j4, k6], rfl, fn, hfn, ?_⟩
    have hi : ∀ t1 t2, results fn t1 = results fn t2 := fun t1 t2 => by unfold results; rw [hres]; simp
    rw [hi _ (Array.replicate 16 undef)]
    exact hv1
  have hs2 := step_leave_returned (c := bF.atR { a with defers := [mk] ++ a.defers } (.inRangeFunc l :: k)) (cs := cs) hlv
  rw [finish_atR_inRangeFunc] at hs2
  have hend := run_endLoop (P := P) j3.rcd (by simp [r])
  have hs3 := stepR_endRangeFunc (P := P) (b := bF) (a := { a with defers := [mk] ++ a.defers }) (k := k) (cs := cs) hend
  have hr4 : Rel P.globals.size base wd s2 aw' (w3.putObj l (.loop { r with state := .exhausted })) := j3.rel.putObj j3.rcd rfl (Nat.le_of_eq hszw) hlb _
  have hwd : Keep base w wd := (Keep.refl base w).alloc hst.rel.hbase _
  have hold : ∀ (r' : Nat) (o : Obj), wd.heap[r']? = some o → o.isCells = false → (w3.putObj l (.loop { r with state := .exhausted })).heap[r']? = some o := fun r' o ho hc => hr4.below.other r' o ho hc
  have hst4 : St P.globals.size base w0 s2 ρ N ds aw' { a with defers := [mk] ++ a.defers } (w3.putObj l (.loop { r with state := .exhausted })) := by
    refine ⟨?_, fun t => ((hst.env t).mono k1).mono j1, hst.size, .mark _ ((hst.dfr.mono k1).mono j1), ?_, ?_⟩
    · exact ⟨hr4.fresh, hr4.mfresh, hr4.blk, hr4.sep, hr4.hbase, hr4.glob, (hst.rel.below.trans hwd).trans hr4.below⟩
    · intro r' hr'
      have hr' : r' ∈ w.heap.size :: marks a.defers := hr'
      rcases List.mem_cons.1 hr' with rfl | hr'
      · refine ⟨⟨hst.rel.below.size, fun hb => Nat.lt_irrefl _ (hst.rel.hbase _ hb)⟩, hold _ _ (World.alloc_heap_new w _) rfl⟩
      · obtain ⟨m1, m2⟩ := hst.mrk r' hr'
        exact ⟨m1, hold _ _ (hwd.other r' _ m2 rfl) rfl⟩
    · show (w.heap.size :: marks a.defers).Nodup
      refine List.nodup_cons.2 ⟨fun hm => ?_, hst.nd⟩
      have := (Array.getElem?_eq_some_iff.1 (hst.mrk _ hm).2).1
      omega
  obtain ⟨m, t', a5, w5, q1, s5, d5, ρ5, ds5, aw5, q2, q3⟩ := h base w0 s2 _ _ b cs hst4
  refine ⟨m, t', a5, w5, ?_, s5, d5, ρ5, ds5, aw5, Inj.le_trans k1 (Inj.le_trans j1 q2), q3⟩
  rw [hat]
  refine .head hs0 ?_
  rw [henter]
  refine Steps.trans k2 (Steps.trans j2 (.head hs1 (.head hs2 (.head hs3 ?_))))
  rw [hat] at q1
  exact q1
end
end Go.Am
