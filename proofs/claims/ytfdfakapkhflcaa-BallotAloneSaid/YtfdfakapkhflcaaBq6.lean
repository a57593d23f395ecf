/- A range over slices.Values. -/
import Derived.Test.YtfdfakapkhflcaaBq2
set_option linter.unusedSimpArgs false
set_option linter.unusedVariables false
set_option linter.unusedSectionVars false
namespace Go.Ri
open Go Go.Am Go.RowKit
variable [SymE] [FT] [FTok]
abbrev vlB (i1 i2 i3 i4 : Nat) (o1 o2 o3 o4 : Array Oper) : Code := .seq (.region i1 o1 false) (.seq (.cond (.tmp 8) .skip (.exit 0)) (.seq (.block 1 (.seq (.region i2 o2 false) (.seq (.region i3 o3 false) (.cond (.tmp 14) .ret .skip)))) (.region i4 o4 false)))
abbrev vlH (i1 i2 i3 i4 : Nat) (o1 o2 o3 o4 : Array Oper) : List Item := [.code (vlB i1 i2 i3 i4 o1 o2 o3 o4), .inLoop (vlB i1 i2 i3 i4 o1 o2 o3 o4), .inBlock 0]
abbrev sh0 (T : TypeId) : List OpD3 := [(.load T (.tmp 1), some 5, none), (.call ⟨.builtin .len, #[.tmp 5], #[T]⟩, some 6, none), (.move zero64, some 7, none)]
abbrev sh1 (tk tl : TypeId) : List OpD3 := [(.binOp .lss tk (.tmp 7) (.tmp 6) tl, some 8, none)]
abbrev sh2 (T e : TypeId) : List OpD3 := [(.indexAddr T (.tmp 5) (.tmp 7), some 9, none), (.load e (.tmp 9), some 10, none), (.assign (.tmp 10), some 4, none)]
abbrev sh3 (tm : TypeId) (ts : Array TypeId) : List OpD3 := [(.move (.tmp 0), some 11, none), (.move (.tmp 4), some 12, none), (.call ⟨.value (.tmp 11), #[.tmp 12], ts⟩, some 13, none), (.unOp .not tm (.tmp 13), some 14, none)]
abbrev sh4 (tn tj : TypeId) : List OpD3 := [(.binOp .add tn (.tmp 7) one64 tj, some 15, none), (.move (.tmp 15), some 7, none)]
structure IsVals (P : Program) (fB : FuncId) (T e : TypeId) : Prop where
  ex : ∃ (fn : Func) (i0 i1 i2 i3 i4 : Nat) (o0 o1 o2 o3 o4 : Array Oper) (tj tk tl tm tn : TypeId) (ts : Array TypeId),
    P.funcs[fB]? = some fn ∧ (fn.name == "runtime.NumGoroutine") = false ∧ fn.ntmps = 16 ∧ fn.results = #[] ∧
    fn.body = some (.seq (.region i0 o0 false) (.block 0 (.loop (vlB i1 i2 i3 i4 o1 o2 o3 o4)))) ∧
    shp o0 = sh0 T ∧ shp o1 = sh1 tk tl ∧ shp o2 = sh2 T e ∧ shp o3 = sh3 tm ts ∧ shp o4 = sh4 tn tj
noncomputable def vlRun (P : Program) (C : Caller) (N : Nat) (tS e : TypeId) (p1 : Tmp) (assign body : Code) (sv : Value) (ρ : T Value) (r : Nat) : Nat → Mem → Option Mem := Nat.rec (motive := fun _ => Nat → Mem → Option Mem) (fun _ M => some M)
  (fun _ ih i M => match bkElem P M tS e sv i with
      | none => none
      | some x => (match rnd P C N assign body (putS ρ (some p1) x) M with
        | none => none
        | some M' => ih (Nat.succ i) M')) r
theorem eBin_lss {P : Program} {ρ : Env} {M : Mem} {t : TypeId} {a b : Nat} {n m : Int} (h : ρ a = .int .i64 n) (h2 : ρ b = .int .i64 m) (t' : TypeId) : eOp P ρ M (.binOp .lss t (.tmp a) (.tmp b) t') = some (.bool (decide (n < m)), M) := by
  simp [eOp, eBin, okv, h, h2, bin, binI, ar]
theorem eBin_add {P : Program} {ρ : Env} {M : Mem} {t : TypeId} {a : Nat} {n : Int} (h : ρ a = .int .i64 n) (t' : TypeId) : eOp P ρ M (.binOp .add t (.tmp a) one64 t') = some (.int .i64 (fw .i64 (n + 1)), M) := by
  simp [eOp, eBin, okv, one64, plain, h, bin, binI, ar]
section
variable {P : Program} {C : Caller} {i1 i2 i3 i4 : Nat} {o1 o2 o3 o4 : Array Oper}
theorem vl_head {tk tl : TypeId} (h1 : shp o1 = sh1 tk tl) {ρ : Env} {M : Mem} {n m : Int} (h7 : ρ 7 = .int .i64 n) (h6 : ρ 6 = .int .i64 m) :
    Seg P 16 (vlH i1 i2 i3 i4 o1 o2 o3 o4) (.code (if decide (n < m) then .skip else .exit 0) :: .code (.seq (.block 1 (.seq (.region i2 o2 false) (.seq (.region i3 o3 false) (.cond (.tmp 14) .ret .skip)))) (.region i4 o4 false)) :: [.inLoop (vlB i1 i2 i3 i4 o1 o2 o3 o4), .inBlock 0])
      ρ (ρ.put (some 8) (.bool (decide (n < m)))) M.abs M.abs := by
  refine (Seg.one fun _ _ _ _ => stepR_seq).trans ((Seg.regionN (shp_size h1)).trans ?_)
  refine (Seg.shp (N := 16) (i := 0) (rest := []) h1 rfl (by decide) (fun c => by simp) (M' := M) (eBin_lss (n := n) (m := m) h7 h6 _)).trans ?_
  exact Seg.regionEnd.trans ((Seg.one fun _ _ _ _ => stepR_seq).trans (Seg.cond rfl (ev_put _ _ _)))
theorem vl_mid {T e tm : TypeId} {ts : Array TypeId} (h2 : shp o2 = sh2 T e) (h3 : shp o3 = sh3 tm ts)
    {ρ : Env} {M : Mem} {i : Nat} {sv x : Value} {k : List Item} (q5 : ρ 5 = sv) (q7 : ρ 7 = .int .i64 (.ofNat i)) (hx : bkElem P M T e sv i = some x) :
    ∃ ρ', Seg P 16 (.code .skip :: .code (.seq (.block 1 (.seq (.region i2 o2 false) (.seq (.region i3 o3 false) (.cond (.tmp 14) .ret .skip)))) (.region i4 o4 false)) :: k)
      (.inRegion o3 [2, 3] :: .code (.cond (.tmp 14) .ret .skip) :: .inBlock 1 :: .code (.region i4 o4 false) :: k) ρ ρ' M.abs M.abs ∧ ρ' 0 = ρ 0 ∧ ρ' 5 = ρ 5 ∧ ρ' 6 = ρ 6 ∧ ρ' 7 = ρ 7 ∧ ρ' 11 = ρ 0 ∧ ρ' 12 = x := by
  unfold bkElem at hx
  split at hx
  · rename_i p Mp hp
    split at hx
    · rename_i y My hy
      simp only [Option.some.injEq] at hx
      subst hx
      have hMp : Mp = M := quiet_spec (P := P) (ρ := fun t => Nat.rec (motive := fun _ => Value) sv (fun _ _ => .int .i64 (.ofNat i)) t) (op := .indexAddr T (.tmp 0) (.tmp 1)) rfl hp
      have hMy : My = M := quiet_spec (P := P) (ρ := fun _ => p) (op := .load e (.tmp 0)) rfl hy
      subst hMp
      subst hMy
      refine ⟨(((((ρ.put (some 9) p).put (some 10) y).put (some 4) y).put (some 11) (ρ 0)).put (some 12) y), ?_, ?_⟩
      · refine (Seg.one fun _ _ _ _ => stepR_skip).trans ?_
        refine (Seg.one fun _ _ _ _ => stepR_seq).trans ?_
        refine (Seg.one fun _ _ _ _ => stepR_block).trans ?_
        refine (Seg.one fun _ _ _ _ => stepR_seq).trans ?_
        refine (Seg.regionN (shp_size h2)).trans ?_
        refine (Seg.shp (N := 16) (i := 0) (rest := [1, 2]) h2 rfl (by decide) (fun c => by simp) (v := p) (M' := My) ?_).trans ?_
        · show eIxA P _ My T (.tmp 5) (.tmp 7) = _
          rw [← hp]
          exact eIxA_eq q5 q7
        refine (Seg.shp (N := 16) (i := 1) (rest := [2]) h2 rfl (by decide) (fun c => by simp) (v := y) (M' := My) ?_).trans ?_
        · show eLoad P _ My e (.tmp 9) = _
          rw [← hy]; exact eLoad_eq (put_eq _ _ _)
        refine (Seg.shp (N := 16) (i := 2) (rest := []) h2 rfl (by decide) (fun c => by simp) (v := y) (M' := My) ?_).trans ?_
        · show some _ = some _
          rw [put_eq]
        refine Seg.regionEnd.trans ?_
        refine (Seg.one fun _ _ _ _ => stepR_seq).trans ?_
        refine (Seg.regionN (shp_size h3)).trans ?_
        refine (Seg.shp (N := 16) (i := 0) (rest := [1, 2, 3]) h3 rfl (by decide) (fun c => by simp) (v := ρ 0) (M' := My) ?_).trans ?_
        · show some _ = some _
          rw [put_ne _ _ (by decide), put_ne _ _ (by decide), put_ne _ _ (by decide)]
        refine Seg.shp (N := 16) (i := 1) (rest := [2, 3]) h3 rfl (by decide) (fun c => by simp) (v := y) (M' := My) ?_
        show some _ = some _
        rw [put_ne _ _ (by decide), put_eq]
      · refine ⟨?_, ?_, ?_, ?_, ?_, put_eq _ _ _⟩
        all_goals simp only [Env.put_some]
        all_goals rfl
    · cases hx
  · cases hx
theorem vl_tail {tm tn tj : TypeId} {ts : Array TypeId} (h3 : shp o3 = sh3 tm ts) (h4 : shp o4 = sh4 tn tj) {ρ : Env} {M : Mem} {n : Int} (q7 : ρ 7 = .int .i64 n) (q13 : ρ 13 = .bool true) :
    ∃ ρ', Seg P 16 (.inRegion o3 [3] :: .code (.cond (.tmp 14) .ret .skip) :: .inBlock 1 :: .code (.region i4 o4 false) :: [.inLoop (vlB i1 i2 i3 i4 o1 o2 o3 o4), .inBlock 0]) (vlH i1 i2 i3 i4 o1 o2 o3 o4) ρ ρ' M.abs M.abs ∧ ρ' 0 = ρ 0 ∧ ρ' 5 = ρ 5 ∧ ρ' 6 = ρ 6 ∧ ρ' 7 = .int .i64 (fw .i64 (n + 1)) := by
  refine ⟨(((ρ.put (some 14) (.bool false)).put (some 15) (.int .i64 (fw .i64 (n + 1)))).put (some 7) (.int .i64 (fw .i64 (n + 1)))), ?_, ?_⟩
  · refine (Seg.shp (N := 16) (i := 3) (rest := []) h3 rfl (by decide) (fun c => by simp) (v := .bool false) (M' := M) (by simp [eOp, eUn, okv, q13])).trans ?_
    refine Seg.regionEnd.trans ?_
    refine (Seg.cond (q := false) rfl (ev_put _ _ _)).trans ?_
    refine (Seg.one fun _ _ _ _ => stepR_skip).trans ?_
    refine (Seg.one fun _ _ _ _ => stepR_inBlock).trans ?_
    refine (Seg.regionN (shp_size h4)).trans ?_
    refine (Seg.shp (N := 16) (i := 0) (rest := [1]) h4 rfl (by decide) (fun c => by simp) (M' := M) (eBin_add (n := n) (by rw [put_ne _ _ (by decide), q7]) _)).trans ?_
    refine (Seg.shp (N := 16) (i := 1) (rest := []) h4 rfl (by decide) (fun c => by simp) (v := .int .i64 (fw .i64 (n + 1))) (M' := M) ?_).trans ?_
    · show some _ = some _
      rw [put_eq]
    exact Seg.regionEnd.trans (Seg.one fun _ _ _ _ => stepR_inLoop)
  · refine ⟨?_, ?_, ?_, put_eq _ _ _⟩
    all_goals simp only [Env.put_some]
    all_goals rfl
theorem step_yield1 {b : Frame} {a : Act} {ops : Array Oper} {i : Nat} {rest : List Nat} {k : List Item} {cs : List Frame} {w : World} {o : Oper} {l : Nat} {r : Loop} {t11 t12 p1 : Nat} {ts : Array TypeId}
    (ho : ops[i]? = some o) (hop : o.op = .call ⟨.value (.tmp t11), #[.tmp t12], ts⟩) (hg : o.guard = none) (h11 : a.tmps.getD t11 undef = .func (.yield l) #[] #[]) (hl : w.heap[l]? = some (.loop r)) (hp : r.params = #[p1]) :
    step P (lone (b.atR a (.inRegion ops (i :: rest) :: k)) cs w) =
      .next (lone (Frame.round l r.fn (r.tmps.setIfInBounds p1 (a.tmps.getD t12 undef)) r.assign r.body .normal) (b.atR a (.inRegion ops (i :: rest) :: k) :: cs) w) := by
  have hst := stepGR_op (P := P) (b := b) (k := k) (cs := cs) (w := w) (rest := rest) ho (wantedN hg ops a.tmps)
  rw [Oper.semAt_eq _ _ _ (fun c => by rw [hop]; simp)] at hst
  have hrun : (execOp a.eval o).run P w = .ok (.round l r.fn (r.tmps.setIfInBounds p1 (a.tmps.getD t12 undef)) r.assign r.body) w := by
    have hy := run_yield (P := P) (w := w) (args := #[a.tmps.getD t12 undef]) hl (by rw [hp]; rfl)
    rw [hp] at hy
    simp only [execOp, hop, resolve, Sem.run_bind, Act.eval, h11, Deferred.ofValue, Sem.run_pure, Result.andThen_ok, invoke, List.map_toArray, List.map_cons, List.map_nil, Array.append_eq_append, Array.empty_append]
    have e : (#[] ++ [a.tmps.getD t12 undef].toArray : Array Value) = #[a.tmps.getD t12 undef] := by simp
    have hz : (#[p1] : Array Tmp).zip #[a.tmps.getD t12 undef] = #[(p1, a.tmps.getD t12 undef)] := by
      apply Array.toList_inj.1
      simp [Array.toList_zip]
    rw [hy, hz]
    simp
  exact step_lone_go (by rw [hst]; simp [stepG.apply, hrun, Frame.atR])
theorem vals_loop (hC : CS P C) {N : Nat} {T e tk tl tm tn tj : TypeId} {ts : Array TypeId} {p1 : Nat} {assign body : Code} {L : Nat} {sv : Value} {ρ : Go.Ri.T Value} (hp1 : p1 < N)
    (h1 : shp o1 = sh1 tk tl) (h2 : shp o2 = sh2 T e) (h3 : shp o3 = sh3 tm ts) (h4 : shp o4 = sh4 tn tj) (hLb : L ≤ 4611686018427387904)
    {base : Nat → Prop} {ws : World} {l : Nat} {r : Loop} (hls : ws.heap.size ≤ l) (hlb : ¬ base l) (hr : r.state = .ready) (hra : r.assign = assign) (hrb : r.body = body) (hrp : r.pending = none) (hrn : r.tmps.size = N) (hrs : r.params = #[p1]) :
    ∀ (n i : Nat) (M M' : Mem), i + n = L → vlRun P C N T e p1 assign body sv ρ n i M = some M' → ∀ {s : Inj} {w : World} (hi : Inv P base ws M s l r w) (hrt : ∀ t, VR s (slot ρ t) (r.tmps.getD t undef)) {ρB : Env} {aB : Act}
      (he : ∀ t, VR s (ρB t) (aB.tmps.getD t undef)) (hn : aB.tmps.size = 16) (q0 : ρB 0 = .func (.yield l) #[] #[]) (q5 : ρB 5 = sv) (q6 : ρB 6 = .int .i64 (.ofNat L)) (q7 : ρB 7 = .int .i64 (.ofNat i)) (b : Frame) (cs : List Frame),
      ∃ s' w' aB', s.le s' ∧ Steps P (lone (b.atR aB (vlH i1 i2 i3 i4 o1 o2 o3 o4)) cs w) (lone (b.atR aB' []) cs w') ∧ Inv P base ws M' s' l r w' ∧ aB'.defers = aB.defers ∧ aB'.tmps.size = 16
  | 0, i, M, M', hle, h, s, w, hi, hrt, ρB, aB, he, hn, q0, q5, q6, q7, b, cs => by
    have h : some M = some M' := h
    simp only [Option.some.injEq] at h; subst h
    obtain ⟨s1, a1, w1, k1, k2, k3, k4, k5, k6⟩ := vl_head (P := P) (i1 := i1) (i2 := i2) (i3 := i3) (i4 := i4) (o2 := o2) (o3 := o3) (o4 := o4) (M := M) h1 q7 q6 base s aB w b cs hi.rel.re he hn
    have hdec : decide ((Int.ofNat i) < Int.ofNat L) = false := by simp; omega
    rw [hdec] at k2
    have hx : step P (lone (b.atR a1 (.code (.exit 0) :: .code (.seq (.block 1 (.seq (.region i2 o2 false) (.seq (.region i3 o3 false) (.cond (.tmp 14) .ret .skip)))) (.region i4 o4 false)) :: [.inLoop (vlB i1 i2 i3 i4 o1 o2 o3 o4), .inBlock 0])) cs w1) = .next (lone (b.atR a1 []) cs w1) := stepR_exit rfl
    refine ⟨s1, w1, a1, k1, Steps.trans k2 (.one hx), ⟨hi.rel.back k3, k3.below.other l _ hi.rcd rfl⟩, k6, k5⟩
  | n + 1, i, M, M', hle, h, s, w, hi, hrt, ρB, aB, he, hn, q0, q5, q6, q7, b, cs => by
    have h : (match bkElem P M T e sv i with
        | none => none
        | some x => (match rnd P C N assign body (putS ρ (some p1) x) M with
          | none => none
          | some M' => vlRun P C N T e p1 assign body sv ρ n (i + 1) M')) = some M' := h
    split at h
    · cases h
    rename_i x hx
    split at h
    · cases h
    rename_i M2 hrnd
    obtain ⟨s1, a1, w1, k1, k2, k3, k4, k5, k6⟩ := vl_head (P := P) (i1 := i1) (i2 := i2) (i3 := i3) (i4 := i4) (o2 := o2) (o3 := o3) (o4 := o4) (M := M) h1 q7 q6 base s aB w b cs hi.rel.re he hn
    have hdec : decide ((Int.ofNat i) < Int.ofNat L) = true := by simp; omega
    rw [hdec] at k2 k4
    simp only [if_true] at k2
    have e0 : ∀ t, t ≠ 8 → (ρB.put (some 8) (.bool true)) t = ρB t := fun t t8 => by rw [put_ne _ _ t8]
    obtain ⟨ρ8, hmid, m0, m5, m6, m7, m11, m12⟩ := vl_mid (P := P) (i2 := i2) (i3 := i3) (i4 := i4) (o4 := o4) (k := [.inLoop (vlB i1 i2 i3 i4 o1 o2 o3 o4), .inBlock 0]) h2 h3 (ρ := ρB.put (some 8) (.bool true)) (by rw [e0 5 (by decide)]; exact q5) (by rw [e0 7 (by decide)]; exact q7) hx
    rw [e0 0 (by decide)] at m0 m11
    rw [e0 5 (by decide)] at m5
    rw [e0 6 (by decide)] at m6
    rw [e0 7 (by decide)] at m7
    obtain ⟨s2, a2, w2, j1, j2, j3, j4, j5, j6⟩ := hmid base s1 a1 w1 b cs k3.re k4 k5
    have hi2 : Inv P base ws M s2 l r w2 := ⟨(hi.rel.back k3).back j3, j3.below.other l _ (k3.below.other l _ hi.rcd rfl) rfl⟩
    obtain ⟨o, g1, g2, g3, g4⟩ := shp_get (i := 2) h3 rfl
    have h11 : a2.tmps.getD 11 undef = .func (.yield l) #[] #[] := by
      have := j4 11
      rw [m11, q0] at this
      obtain ⟨a', c', e1, e2, e3⟩ := this.func_inv
      rw [e1]
      have ea : a' = #[] := by
        have hh := e2.length
        exact Array.toList_eq_nil_iff.1 (List.length_eq_zero_iff.1 hh.symm)
      have ec : c' = #[] := by
        have hh := e3.length
        exact Array.toList_eq_nil_iff.1 (List.length_eq_zero_iff.1 hh.symm)
      rw [ea, ec]
    have hy := step_yield1 (P := P) (b := b) (a := a2) (rest := [3]) (k := .code (.cond (.tmp 14) .ret .skip) :: .inBlock 1 :: .code (.region i4 o4 false) :: [.inLoop (vlB i1 i2 i3 i4 o1 o2 o3 o4), .inBlock 0]) (cs := cs) g1 g2 g4 h11 hi2.rcd hrs
    have henv : ∀ t, VR s2 (slot (putS ρ (some p1) x) t) ((r.tmps.setIfInBounds p1 (a2.tmps.getD 12 undef)).getD t undef) := by
      rw [slot_put]
      have b2 : VR s2 x (a2.tmps.getD 12 undef) := by have := j4 12; rw [m12] at this; exact this
      exact put_env (a := { tmps := r.tmps, defers := [] }) (dst := some p1) (fun t => ((hrt t).mono k1).mono j1) (fun d hd => by obtain rfl := Option.some.inj hd; rw [hrn]; exact hp1) b2
    obtain ⟨s3, w3, n1, n2, n3⟩ := rnd_spec hC hrnd hi2 hls hlb hr hra hrb hrp henv (by simp [hrn]) (b.atR a2 (.inRegion o3 [2, 3] :: .code (.cond (.tmp 14) .ret .skip) :: .inBlock 1 :: .code (.region i4 o4 false) :: [.inLoop (vlB i1 i2 i3 i4 o1 o2 o3 o4), .inBlock 0])) cs
    rw [Frame.finish_atR, g1] at n2
    simp only [Option.bind_some, g3] at n2
    have he3 : ∀ t, VR s3 ((ρ8.put (some 13) (.bool true)) t) ((a2.put (some 13) (.bool true)).tmps.getD t undef) := put_env (fun t => (j4 t).mono n1) (fun d hd => by obtain rfl := Option.some.inj hd; rw [j5]; decide) (.bool true)
    obtain ⟨ρ9, htail, u0, u5, u6, u7⟩ := vl_tail (P := P) (i1 := i1) (i2 := i2) (i3 := i3) (i4 := i4) (o1 := o1) (o2 := o2) (M := M2) h3 h4 (ρ := ρ8.put (some 13) (.bool true)) (n := .ofNat i) (by rw [put_ne _ _ (by decide), m7, q7]) (put_eq _ _ _)
    obtain ⟨s4, a4, w4, v1, v2, v3, v4, v5, v6⟩ := htail base s3 (a2.put (some 13) (.bool true)) w3 b cs n3.rel.re he3 (by rw [put_size]; exact j5)
    rw [put_ne _ _ (by decide), m0, q0] at u0
    rw [put_ne _ _ (by decide), m5, q5] at u5
    rw [put_ne _ _ (by decide), m6, q6] at u6
    have hii : (Int.ofNat i) = (i : Int) := rfl
    rw [fw_small (by omega) (by omega)] at u7
    have e7 : (Int.ofNat i) + 1 = Int.ofNat (i + 1) := rfl
    rw [e7] at u7
    obtain ⟨s5, w5, a5, x1, x2, x3, x4, x5⟩ := vals_loop hC hp1 h1 h2 h3 h4 hLb hls hlb hr hra hrb hrp hrn hrs n (i + 1) M2 M' (by omega) h ⟨n3.rel.back v3, v3.below.other l _ n3.rcd rfl⟩ (fun t => ((((hrt t).mono k1).mono j1).mono n1).mono v1) v4 v5 u0 u5 u6 u7 b cs
    refine ⟨s5, w5, a5, Inj.le_trans k1 (Inj.le_trans j1 (Inj.le_trans n1 (Inj.le_trans v1 x1))), Steps.trans k2 (Steps.trans j2 (.head hy (Steps.trans n2 (Steps.trans v2 x2)))), x3, ?_, x5⟩
    rw [x4, v6, put_defers, j6, k6]
theorem eLen5_slice {ρ : Env} {M : Mem} {T el : TypeId} {q : Option Addr} {L c : Nat} (hT : P.underlying T = some (.slice el)) (h : ρ 5 = .slice q L c) : eOp P ρ M (.call ⟨.builtin .len, #[.tmp 5], #[T]⟩) = some (.int .i64 (.ofNat L), M) := by
  show eLen P ρ M #[T] (.tmp 5) = _
  simp [eLen, hT, okv, h]
theorem ago_vals (hC : CS P C) {fB : FuncId} {T e el : TypeId} (hB : IsVals P fB T e) {N : Nat} {k : List Item} {ρ : Go.Ri.T Value} {ds : List Deferred} {M M1 M' : Mem} {R : ADone → Env → List Deferred → AW → Prop} {g : Operand} {p1 : Nat} {assign body : Code} {bx L c : Nat} {q : Option Addr}
    (hg : okv P.globals.size (slot ρ) g = some (.func (.func fB) ⟨[]⟩ ⟨[.pointer (some ⟨bx, 0, none⟩)]⟩)) (hT : P.underlying T = some (.slice el))
    (hs : eLoad P (fun _ => .pointer (some ⟨bx, 0, none⟩)) M T (.tmp 0) = some (.slice q L c, M1)) (hL : L ≤ 4611686018427387904) (hp1 : p1 < N)
    (hr : vlRun P C N T e p1 assign body (.slice q L c) ρ L 0 M = some M') (h : AGo P N k (slot ρ) ds M'.abs R) : AGo P N (.code (.rangeFunc g #[p1] assign body) :: k) (slot ρ) ds M.abs R := by
  obtain ⟨fn, i0, i1, i2, i3, i4, o0, o1, o2, o3, o4, tj, tk, tl, tm, tn, ts, hfn, hname, hnt, hres, hbody, h0, h1, h2, h3, h4⟩ := hB.ex
  intro base w0 s a w b cs hst
  have hM1 : M1 = M := quiet_spec (P := P) (ρ := fun _ => .pointer (some ⟨bx, 0, none⟩)) (op := .load T (.tmp 0)) rfl hs
  subst hM1
  let b0 : Frame := { b with roundOf := none }
  have hat : ∀ (a : Act) (t : List Item), b.at a t = b0.atR a t := fun a t => (Frame.atR_of_none (b := b0) rfl a t).symm
  obtain ⟨g1, g2⟩ := okv_spec hg
  have hv := hst.eval g1
  rw [g2] at hv
  obtain ⟨a', c', e1, e2, e3⟩ := hv.func_inv
  have ea : a' = #[] := Array.toList_eq_nil_iff.1 (List.length_eq_zero_iff.1 e2.length.symm)
  subst ea
  obtain ⟨x, rfl⟩ : ∃ x, c' = #[x] := by
    have := e3.length
    rcases c' with ⟨l⟩
    match l, this with
    | [x], _ => exact ⟨x, rfl⟩
  have hx : VR s (.pointer (some ⟨bx, 0, none⟩)) x := by cases e3 with | cons h t => exact h
  let wd : World := w.alloc (.deferred (some []))
  let l : Nat := w.heap.size + 1
  let r : Loop := { state := .ready, pending := none, fn := b0.fn, tmps := a.tmps, params := #[p1], assign, body, defers := w.heap.size }
  let w1 : World := wd.alloc (.loop r)
  let mk : Deferred := { target := .collected w.heap.size, args := #[] }
  have hel : (Instr.enterLoop b0.fn a.tmps #[p1] assign body b0.roundOf).run P w = .ok (l, [mk]) w1 := run_enterLoop_outer ..
  have hres' : (resolve a.eval (rangeCall g l) 0).run P w1 = .ok { target := .fn (.func fB) #[x], args := #[.func (.yield l) #[] #[]] } w1 := by
    have hc : a.eval (.const (.func (.yield l) #[] #[])) = .func (.yield l) #[] #[] := rfl
    simp [resolve, rangeCall, e1, hc, Deferred.ofValue]
  have hinv : (invoke (.fn (.func fB) #[x]) #[.func (.yield l) #[] #[]]).run P w1 = .ok (.enter fB #[.func (.yield l) #[] #[], x]) w1 := by
    simp only [invoke]
    rw [run_callFunc hfn hname hbody]
    rfl
  have hs0 := stepR_rangeFunc (P := P) (b := b0) (a := a) (k := k) (cs := cs) (w := w) hel hres' hinv
  have hsz : wd.heap.size = l := by simp [wd, l]
  have hr1 : Rel P.globals.size base wd s M1.abs w1 := (hst.rel.re.allocObj _).re.allocObj _
  have hrd : w1.heap[l]? = some (.loop r) := by
    rw [← hsz]; exact World.alloc_heap_new wd _
  have hlb : ¬ base l := fun hb => by have := hst.rel.hbase l hb; simp only [l] at this; omega
  obtain ⟨henv, hnn⟩ := init_env (s := s) (args := [.func (.yield l) #[] #[], .pointer (some ⟨bx, 0, none⟩)]) (args' := [.func (.yield l) #[] #[], x]) (N := 16) (.cons (.func _ .nil .nil) (.cons hx .nil)) (by simp)
  let b2 : Frame := { (default : Frame) with fn := fB, kind := .normal, roundOf := none }
  let a2 : Act := { tmps := #[.func (.yield l) #[] #[], x] ++ Array.replicate (16 - 2) undef, defers := [] }
  have henter : Frame.enter P fB #[.func (.yield l) #[] #[], x] .normal = b2.atR a2 [.code (.seq (.region i0 o0 false) (.block 0 (.loop (vlB i1 i2 i3 i4 o1 o2 o3 o4))))] := by
    simp [Frame.enter, Frame.atR, hfn, hbody, hnt, b2, a2]
  have seg0 : Seg P 16 [.code (.seq (.region i0 o0 false) (.block 0 (.loop (vlB i1 i2 i3 i4 o1 o2 o3 o4))))] (vlH i1 i2 i3 i4 o1 o2 o3 o4) (Env.init [.func (.yield l) #[] #[], .pointer (some ⟨bx, 0, none⟩)])
      ((((Env.init [.func (.yield l) #[] #[], .pointer (some ⟨bx, 0, none⟩)]).put (some 5) (.slice q L c)).put (some 6) (.int .i64 (.ofNat L))).put (some 7) (.int .i64 0)) M1.abs M1.abs := by
    refine (Seg.one fun _ _ _ _ => stepR_seq).trans ?_
    refine (Seg.regionN (shp_size h0)).trans ?_
    refine (Seg.shp (N := 16) (i := 0) (rest := [1, 2]) h0 rfl (by decide) (fun c => by simp) (v := .slice q L c) (M' := M1) ?_).trans ?_
    · show eLoad P _ M1 T (.tmp 1) = _
      rw [← hs]; exact eLoad_eq rfl
    refine (Seg.shp (N := 16) (i := 1) (rest := [2]) h0 rfl (by decide) (fun c => by simp) (M' := M1) (eLen5_slice hT (put_eq _ _ _))).trans ?_
    refine (Seg.shp (N := 16) (i := 2) (rest := []) h0 rfl (by decide) (fun c => by simp) (v := .int .i64 0) (M' := M1) rfl).trans ?_
    refine Seg.regionEnd.trans ?_
    exact (Seg.one fun _ _ _ _ => stepR_block).trans (Seg.one fun _ _ _ _ => stepR_loop)
  obtain ⟨s1, a3, w2, k1, k2, k3, k4, k5, k6⟩ := seg0 base s a2 w1 b2 (b0.atR { a with defers := [mk] ++ a.defers } (.inRangeFunc l :: k) :: cs) hr1.re henv hnn
  obtain ⟨s2, w3, a4, j1, j2, j3, j4, j5⟩ := vals_loop hC hp1 h1 h2 h3 h4 hL (Nat.le_of_eq hsz) hlb rfl rfl rfl rfl hst.size rfl L 0 M1 M' (Nat.zero_add L) hr ⟨hr1.back k3, k3.below.other l _ hrd rfl⟩ (fun t => (hst.env t).mono k1) k4 k5
    (by simp only [Env.put_some]; rfl) (by simp only [Env.put_some]; rfl) (by simp only [Env.put_some]; rfl) (put_eq _ _ _) b2 (b0.atR { a with defers := [mk] ++ a.defers } (.inRangeFunc l :: k) :: cs)
  have hs1 : step P (lone (b2.atR a4 []) (b0.atR { a with defers := [mk] ++ a.defers } (.inRangeFunc l :: k) :: cs) w3) = .next (lone { b2.atR a4 [] with mode := .returning } _ w3) := stepR_end rfl
  obtain ⟨v', hv1, _⟩ := ares_0 (P := P) (N := 16) (ρ := fun _ => undef) (aw := M'.abs) hres base wd s2 (Array.replicate 16 undef) w3 j3.rel (fun t => by
    have : (Array.replicate 16 undef).getD t undef = undef := by simp [Array.getD]
    rw [this]; exact VR.undef) (by simp)
  have hlv : Frame.leaving P { b2.atR a4 [] with mode := .returning } w3 (.returned v') := by
    refine ⟨rfl, by show a4.defers = []; rw [j4, k6], rfl, fn, hfn, ?_⟩
    have hi : ∀ t1 t2, results fn t1 = results fn t2 := fun t1 t2 => by unfold results; rw [hres]; simp
    rw [hi _ (Array.replicate 16 undef)]
    exact hv1
  have hs2 := step_leave_returned (c := b0.atR { a with defers := [mk] ++ a.defers } (.inRangeFunc l :: k)) (cs := cs) hlv
  rw [finish_atR_inRangeFunc] at hs2
  have hend := run_endLoop (P := P) j3.rcd (by simp [r])
  have hs3 := stepR_endRangeFunc (P := P) (b := b0) (a := { a with defers := [mk] ++ a.defers }) (k := k) (cs := cs) hend
  have hr4 : Rel P.globals.size base wd s2 M'.abs (w3.putObj l (.loop { r with state := .exhausted })) := j3.rel.putObj j3.rcd rfl (Nat.le_of_eq hsz) hlb _
  have hwd : Keep base w wd := (Keep.refl base w).alloc hst.rel.hbase _
  have hold : ∀ (r' : Nat) (o : Obj), wd.heap[r']? = some o → o.isCells = false → (w3.putObj l (.loop { r with state := .exhausted })).heap[r']? = some o := fun r' o ho hc => hr4.below.other r' o ho hc
  have hst4 : St P.globals.size base w0 s2 (slot ρ) N ds M'.abs { a with defers := [mk] ++ a.defers } (w3.putObj l (.loop { r with state := .exhausted })) := by
    refine ⟨?_, fun t => ((hst.env t).mono k1).mono j1, hst.size, .mark _ ((hst.dfr.mono k1).mono j1), ?_, ?_⟩
    · exact ⟨hr4.fresh, hr4.mfresh, hr4.blk, hr4.sep, hr4.hbase, hr4.glob, (hst.rel.below.trans hwd).trans hr4.below⟩
    · intro r' hr'
      have hr' : r' ∈ w.heap.size :: marks a.defers := hr'
      rcases List.mem_cons.1 hr' with rfl | hr'
      · refine ⟨⟨hst.rel.below.size, fun hb => Nat.lt_irrefl _ (hst.rel.hbase _ hb)⟩, hold _ _ (World.alloc_heap_new w _) rfl⟩
      · obtain ⟨m1, m2⟩ := hst.mrk r' hr'
        exact ⟨m1, hold _ _ (hwd.other r' _ m2 rfl) rfl⟩
    · show (w.heap.size :: marks a.defers).Nodup
      refine List.nodup_cons.2 ⟨fun hm => ?_, hst.nd⟩
      have := (Array.getElem?_eq_some_iff.1 (hst.mrk _ hm).2).1
      omega
  obtain ⟨m, t', a5, w5, q1, s5, d5, ρ5, ds5, aw5, q2, q3⟩ := h base w0 s2 _ _ b cs hst4
  refine ⟨m, t', a5, w5, ?_, s5, d5, ρ5, ds5, aw5, Inj.le_trans k1 (Inj.le_trans j1 q2), q3⟩
  rw [hat]
  refine .head hs0 ?_
  rw [henter]
  refine Steps.trans k2 (Steps.trans j2 (.head hs1 (.head hs2 (.head hs3 ?_))))
  rw [hat] at q1
  exact q1
end
end Go.Ri
