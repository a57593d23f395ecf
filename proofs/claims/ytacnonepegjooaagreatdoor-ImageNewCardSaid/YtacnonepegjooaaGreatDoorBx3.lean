/- A range over slices.Backward, whose body may return. -/
import Derived.Test.YtacnonepegjooaaGreatDoorBx2
set_option linter.unusedSimpArgs false
set_option linter.unusedVariables false
set_option linter.unusedSectionVars false
namespace Go.Ri
open Go Go.Am Go.RowKit
variable [SymE] [FT] [FTok]
def jmpK (q : Bool) (k : List Item) : List Item := match q with
  | true => .code .ret :: k
  | false => k
def jmpR (q : Bool) (r : Loop) : Loop := match q with
  | true => { r with state := .done, pending := some .ret }
  | false => r
noncomputable def rndX (P : Program) (X : Exts) (C : Caller) (N : Nat) (tab2 : Tab) (assign body : Code) (ρ : T Value) (M : Mem) : Option (Bool × Mem) := match sRun P C N 100 [.code assign] ρ M with
  | none => none
  | some (ρ1, M1) => jRun P X C N tab2 100 [.code body] ρ1 M1
noncomputable def bkRunX (P : Program) (X : Exts) (C : Caller) (N : Nat) (tab2 : Tab) (tS e : TypeId) (p1 p2 : Tmp) (assign body : Code) (bx : Nat) (ρ : T Value) (L : Nat) (i : Nat) : Mem → Option (Bool × Mem) := Nat.rec (motive := fun _ => Mem → Option (Bool × Mem)) (fun M => some (false, M))
  (fun i ih M => match eLoad P (fun _ => .pointer (some ⟨bx, 0, none⟩)) M tS (.tmp 0) with
    | none => none
    | some (sv, _) => (match bkElem P M tS e sv i with
      | none => none
      | some x => (match rndX P X C N tab2 assign body (putS (putS ρ (some p1) (.int .i64 (.ofNat i))) (some p2) x) M with
        | none => none
        | some (q, M') => (match q with
          | true => some (true, M')
          | false => ih M')))) i
section
variable {P : Program} {X : Exts} {C : Caller} {tab2 : Tab}
theorem rndX_spec (hX : ExtOk P X) (hC : CS P C) (hm : P.follows .mixedOrders = true) {N : Nat} {assign body : Code} {ρ : T Value} {M M' : Mem} {q : Bool} (h : rndX P X C N tab2 assign body ρ M = some (q, M')) {base : Nat → Prop} {ws w : World} {s : Inj} {l : Nat} {r : Loop} (hi : Inv P base ws M s l r w) (hls : ws.heap.size ≤ l) (hlb : ¬ base l)
    (hr : r.state = .ready) (hra : r.assign = assign) (hrb : r.body = body) (hrp : r.pending = none) {tmps : Array Value} (he : ∀ t, VR s (slot ρ t) (tmps.getD t undef)) (hn : tmps.size = N) (c : Frame) (cs : List Frame) :
    ∃ s' w', s.le s' ∧ Steps P (lone (Frame.round l r.fn tmps r.assign r.body .normal) (c :: cs) w) (lone (c.finish (.bool (!q))) cs w') ∧ Inv P base ws M' s' l (jmpR q r) w' := by
  unfold rndX at h
  split at h
  · cases h
  rename_i ρ1 M1 h1
  let b : Frame := { (default : Frame) with fn := r.fn, kind := .normal, roundOf := some l }
  have hb0 : Frame.round l r.fn tmps r.assign r.body .normal = b.atR { tmps := tmps, defers := [] } ([.code assign] ++ [.beginRound, .code body]) := by
    simp [Frame.round, Frame.atR, b, hra, hrb]
  rw [hb0]
  obtain ⟨s1, a1, w1, k1, k2, k3, k4, k5, k6⟩ := sRun_spec hC (N := N) (kk := [.beginRound, .code body]) 100 _ _ _ _ _ h1 base s { tmps := tmps, defers := [] } w b (c :: cs) hi.rel.re he hn
  have hl1 : w1.heap[l]? = some (.loop r) := k3.below.other l _ hi.rcd rfl
  have hbr := run_beginRound (P := P) hl1 hr
  have hs1 : step P (lone (b.atR a1 [.beginRound, .code body]) (c :: cs) w1) = .next (lone (b.atR a1 [.code body]) (c :: cs) _) := stepR_beginRound (l := l) rfl hbr
  have hrel1 : Rel P.globals.size base ws s1 M1.abs (w1.putObj l (.loop { r with state := .busy })) := (hi.rel.back k3).putObj hl1 rfl hls hlb _
  have k6' : a1.defers = [] := k6
  have hst : St P.globals.size base (w1.putObj l (.loop { r with state := .busy })) s1 (slot ρ1) N [] M1.abs a1 (w1.putObj l (.loop { r with state := .busy })) :=
    ⟨hrel1.re, k4, k5, by rw [k6']; exact .nil, by rw [k6']; exact fun r' hr' => (by cases hr'), by rw [k6']; exact List.nodup_nil⟩
  obtain ⟨s2, a2, w2, t2, ρ2, aw2, j2, j1, jst, rfl, jt⟩ := jRun_spec hX hC hm 100 _ _ _ _ _ h base _ s1 a1 _ b (c :: cs) hst
  have hlt : l < w1.heap.size := (Array.getElem?_eq_some_iff.1 hl1).1
  have hl2 : w2.heap[l]? = some (.loop { r with state := .busy }) := jst.rel.below.other l _ (World.putObj_heap_same hlt) rfl
  have hlt2 : l < w2.heap.size := (Array.getElem?_eq_some_iff.1 hl2).1
  cases q with
  | false =>
    obtain rfl : t2 = [] := jt
    have her := run_endRound (P := P) none hl2
    have hs2 : step P (lone (b.atR a2 []) (c :: cs) w2) = .next (lone (c.finish (.bool true)) cs _) := stepR_round_end (l := l) rfl rfl her
    have hrr : ({ ({ r with state := .busy } : Loop) with state := if (none : Option Code).isNone then .ready else .done, pending := none } : Loop) = r := by
      cases r; simp only at hr hrp; subst hr; subst hrp; rfl
    refine ⟨s2, _, Inj.le_trans k1 j1, Steps.trans k2 (.head hs1 (Steps.trans j2 (.one hs2))), (hrel1.back jst.rel).putObj hl2 rfl hls hlb _, ?_⟩
    rw [World.putObj_heap_same hlt2, hrr]; rfl
  | true =>
    obtain ⟨k', rfl⟩ : ∃ k', t2 = .code .ret :: k' := jt
    have her := run_endRound (P := P) (some .ret) hl2
    have hs2 : step P (lone (b.atR a2 (.code .ret :: k')) (c :: cs) w2) = .next (lone (c.finish (.bool false)) cs _) := stepR_round_ret (l := l) rfl rfl her
    refine ⟨s2, _, Inj.le_trans k1 j1, Steps.trans k2 (.head hs1 (Steps.trans j2 (.one hs2))), (hrel1.back jst.rel).putObj hl2 rfl hls hlb _, ?_⟩
    rw [World.putObj_heap_same hlt2]; rfl
theorem seg_tailX {i1 i2 i3 : Nat} {o1 o2 o3 : Array Oper} {T e tm : TypeId} {ts : Array TypeId}
    (h3 : shp o3 = [(.move (.tmp 0), some 11, none), (.move (.tmp 3), some 12, none), (.load T (.tmp 1), some 13, none), (.move (.tmp 3), some 14, none), (.indexAddr T (.tmp 13) (.tmp 14), some 15, none), (.load e (.tmp 15), some 16, none),
      (.call ⟨.value (.tmp 11), #[.tmp 12, .tmp 16], ts⟩, some 17, none), (.unOp .not tm (.tmp 17), some 18, none)])
    {ρ : Env} {M : Mem} {kk : List Item} (q17 : ρ 17 = .bool false) :
    Seg P 19 (.inRegion o3 [7] :: .code (.cond (.tmp 18) .ret .skip) :: kk) (.code .ret :: kk) ρ (ρ.put (some 18) (.bool true)) M.abs M.abs := by
  refine (Seg.shp (N := 19) (i := 7) (rest := []) h3 rfl (by decide) (fun c => by simp) (v := .bool true) (M' := M) (by simp [eOp, eUn, okv, q17])).trans ?_
  exact Seg.regionEnd.trans (Seg.cond (q := true) rfl (ev_put _ _ _))
theorem back_loopX (hX : ExtOk P X) (hC : CS P C) (hm : P.follows .mixedOrders = true) {N : Nat} {T e tk tl tm tn tj : TypeId} {ts : Array TypeId} {i1 i2 i3 : Nat} {o1 o2 o3 : Array Oper} {p1 p2 : Nat} {assign body : Code} {bx L : Nat} {ρ : Go.Ri.T Value} (hp1 : p1 < N) (hp2 : p2 < N)
    (h1 : shp o1 = [(.move (.tmp 3), some 7, none), (.binOp .geq tk (.tmp 7) zero64 tl, some 8, none)])
    (h3 : shp o3 = [(.move (.tmp 0), some 11, none), (.move (.tmp 3), some 12, none), (.load T (.tmp 1), some 13, none), (.move (.tmp 3), some 14, none), (.indexAddr T (.tmp 13) (.tmp 14), some 15, none), (.load e (.tmp 15), some 16, none),
      (.call ⟨.value (.tmp 11), #[.tmp 12, .tmp 16], ts⟩, some 17, none), (.unOp .not tm (.tmp 17), some 18, none)])
    (h2 : shp o2 = [(.move (.tmp 3), some 9, none), (.binOp .sub tn (.tmp 9) one64 tj, some 10, none), (.assign (.tmp 10), some 3, none)])
    {base : Nat → Prop} {ws : World} {l : Nat} {r : Loop} (hls : ws.heap.size ≤ l) (hlb : ¬ base l) (hr : r.state = .ready) (hra : r.assign = assign) (hrb : r.body = body) (hrp : r.pending = none) (hrn : r.tmps.size = N) (hrs : r.params = #[p1, p2]) :
    ∀ (i : Nat) (M : Mem) (q : Bool) (M' : Mem), i ≤ 4611686018427387904 → bkRunX P X C N tab2 T e p1 p2 assign body bx ρ L i M = some (q, M') → ∀ {s : Inj} {w : World} (hi : Inv P base ws M s l r w) (hrt : ∀ t, VR s (slot ρ t) (r.tmps.getD t undef)) {ρB : Env} {aB : Act}
      (he : ∀ t, VR s (ρB t) (aB.tmps.getD t undef)) (hn : aB.tmps.size = 19) (q0 : ρB 0 = .func (.yield l) #[] #[]) (q1 : ρB 1 = .pointer (some ⟨bx, 0, none⟩)) (q3 : ρB 3 = .int .i64 ((i : Int) - 1)) (b : Frame) (cs : List Frame),
      ∃ s' w' aB' tf, s.le s' ∧ Steps P (lone (b.atR aB (lpH i1 i2 i3 o1 o2 o3)) cs w) (lone (b.atR aB' tf) cs w') ∧ Inv P base ws M' s' l (jmpR q r) w' ∧ aB'.defers = aB.defers ∧ aB'.tmps.size = 19 ∧ (match q with
        | true => ∃ k', tf = .code .ret :: k'
        | false => tf = [])
  | 0, M, q, M', _, h, s, w, hi, hrt, ρB, aB, he, hn, q0, q1, q3, b, cs => by
    have h : some (false, M) = some (q, M') := h
    simp only [Option.some.injEq, Prod.mk.injEq] at h
    obtain ⟨rfl, rfl⟩ := h
    obtain ⟨s1, a1, w1, k1, k2, k3, k4, k5, k6⟩ := seg_head (P := P) (i1 := i1) (i2 := i2) (i3 := i3) (o2 := o2) (o3 := o3) (M := M) h1 q3 base s aB w b cs hi.rel.re he hn
    have hx : step P (lone (b.atR a1 (.code (.exit 0) :: .code (.seq (.block 1 (.seq (.region i3 o3 false) (.cond (.tmp 18) .ret .skip))) (.region i2 o2 false)) :: [.inLoop (lpB i1 i2 i3 o1 o2 o3), .inBlock 0])) cs w1) = .next (lone (b.atR a1 []) cs w1) := stepR_exit rfl
    exact ⟨s1, w1, a1, [], k1, Steps.trans k2 (.one hx), ⟨hi.rel.back k3, k3.below.other l _ hi.rcd rfl⟩, k6, k5, rfl⟩
  | i + 1, M, q, M', hle, h, s, w, hi, hrt, ρB, aB, he, hn, q0, q1, q3, b, cs => by
    have h : (match eLoad P (fun _ => .pointer (some ⟨bx, 0, none⟩)) M T (.tmp 0) with
      | none => none
      | some (sv, _) => (match bkElem P M T e sv i with
        | none => none
        | some x => (match rndX P X C N tab2 assign body (putS (putS ρ (some p1) (.int .i64 (.ofNat i))) (some p2) x) M with
          | none => none
          | some (q', M') => (match q' with
            | true => some (true, M')
            | false => bkRunX P X C N tab2 T e p1 p2 assign body bx ρ L i M')))) = some (q, M') := h
    split at h
    · cases h
    rename_i sv M1 hsv
    split at h
    · cases h
    rename_i x hx
    split at h
    · cases h
    rename_i q0' M2 hrnd
    have q3' : ρB 3 = .int .i64 (.ofNat i) := by rw [q3]; congr 1; simp
    obtain ⟨s1, a1, w1, k1, k2, k3, k4, k5, k6⟩ := seg_head (P := P) (i1 := i1) (i2 := i2) (i3 := i3) (o2 := o2) (o3 := o3) (M := M) h1 q3' base s aB w b cs hi.rel.re he hn
    have hdec : decide (0 ≤ Int.ofNat i) = true := by simp
    rw [hdec] at k2 k4
    simp only [if_true] at k2
    have e0 : ∀ t, t ≠ 7 → t ≠ 8 → ((ρB.put (some 7) (ρB 3)).put (some 8) (.bool true)) t = ρB t := fun t t7 t8 => by rw [put_ne _ _ t8, put_ne _ _ t7]
    obtain ⟨ρ8, hmid, m0, m1, m3, m11, m12, m16⟩ := seg_mid (P := P) (i1 := i1) (o1 := o1) (i3 := i3) (i2 := i2) (o2 := o2) (k := [.inLoop (lpB i1 i2 i3 o1 o2 o3), .inBlock 0]) h3 (ρ := (ρB.put (some 7) (ρB 3)).put (some 8) (.bool true)) (by rw [e0 1 (by decide) (by decide)]; exact q1) (by rw [e0 3 (by decide) (by decide)]; exact q3') hsv hx
    rw [e0 0 (by decide) (by decide)] at m0 m11
    rw [e0 1 (by decide) (by decide)] at m1
    rw [e0 3 (by decide) (by decide)] at m3 m12
    obtain ⟨s2, a2, w2, j1, j2, j3, j4, j5, j6⟩ := hmid base s1 a1 w1 b cs k3.re k4 k5
    have hi2 : Inv P base ws M s2 l r w2 := ⟨(hi.rel.back k3).back j3, j3.below.other l _ (k3.below.other l _ hi.rcd rfl) rfl⟩
    obtain ⟨o, g1, g2, g3, g4⟩ := shp_get (i := 6) h3 rfl
    have h11 : a2.tmps.getD 11 undef = .func (.yield l) #[] #[] := by
      have := j4 11
      rw [m11, q0] at this
      obtain ⟨a', c', e1, e2, e3⟩ := this.func_inv
      rw [e1]
      have ea : a' = #[] := by
        have hh := e2.length
        exact Array.toList_eq_nil_iff.1 (List.length_eq_zero_iff.1 hh.symm)
      have ec : c' = #[] := by
        have hh := e3.length
        exact Array.toList_eq_nil_iff.1 (List.length_eq_zero_iff.1 hh.symm)
      rw [ea, ec]
    have hy := step_yield (P := P) (b := b) (a := a2) (rest := [7]) (k := .code (.cond (.tmp 18) .ret .skip) :: .inBlock 1 :: .code (.region i2 o2 false) :: [.inLoop (lpB i1 i2 i3 o1 o2 o3), .inBlock 0]) (cs := cs) g1 g2 g4 h11 hi2.rcd hrs
    have henv : ∀ t, VR s2 (slot (putS (putS ρ (some p1) (.int .i64 (.ofNat i))) (some p2) x) t) (((r.tmps.setIfInBounds p1 (a2.tmps.getD 12 undef)).setIfInBounds p2 (a2.tmps.getD 16 undef)).getD t undef) := by
      rw [slot_put, slot_put]
      have b1 : VR s2 (.int .i64 (.ofNat i)) (a2.tmps.getD 12 undef) := by have := j4 12; rw [m12, q3'] at this; exact this
      have b2 : VR s2 x (a2.tmps.getD 16 undef) := by have := j4 16; rw [m16] at this; exact this
      have c1 := put_env (a := { tmps := r.tmps, defers := [] }) (dst := some p1) (fun t => ((hrt t).mono k1).mono j1) (fun d hd => by obtain rfl := Option.some.inj hd; rw [hrn]; exact hp1) b1
      exact put_env (a := ({ tmps := r.tmps, defers := [] } : Act).put (some p1) (a2.tmps.getD 12 undef)) (dst := some p2) c1 (fun d hd => by obtain rfl := Option.some.inj hd; rw [put_size, hrn]; exact hp2) b2
    obtain ⟨s3, w3, n1, n2, n3⟩ := rndX_spec hX hC hm hrnd hi2 hls hlb hr hra hrb hrp henv (by simp [hrn]) (b.atR a2 (.inRegion o3 [6, 7] :: .code (.cond (.tmp 18) .ret .skip) :: .inBlock 1 :: .code (.region i2 o2 false) :: [.inLoop (lpB i1 i2 i3 o1 o2 o3), .inBlock 0])) cs
    rw [Frame.finish_atR, g1] at n2
    simp only [Option.bind_some, g3] at n2
    cases q0' with
    | true =>
      simp only [Option.some.injEq, Prod.mk.injEq] at h
      obtain ⟨rfl, rfl⟩ := h
      have he3 : ∀ t, VR s3 ((ρ8.put (some 17) (.bool false)) t) ((a2.put (some 17) (.bool false)).tmps.getD t undef) := put_env (fun t => (j4 t).mono n1) (fun d hd => by obtain rfl := Option.some.inj hd; rw [j5]; decide) (.bool false)
      obtain ⟨s4, a4, w4, v1, v2, v3, v4, v5, v6⟩ := seg_tailX (P := P) (i1 := i1) (i2 := i2) (i3 := i3) (o1 := o1) (o2 := o2) (e := e) (M := M2) (kk := .inBlock 1 :: .code (.region i2 o2 false) :: [.inLoop (lpB i1 i2 i3 o1 o2 o3), .inBlock 0]) h3 (ρ := ρ8.put (some 17) (.bool false)) (put_eq _ _ _) base s3 (a2.put (some 17) (.bool false)) w3 b cs n3.rel.re he3 (by rw [put_size]; exact j5)
      refine ⟨s4, w4, a4, _, Inj.le_trans k1 (Inj.le_trans j1 (Inj.le_trans n1 v1)), Steps.trans k2 (Steps.trans j2 (.head hy (Steps.trans n2 v2))), ⟨n3.rel.back v3, v3.below.other l _ n3.rcd rfl⟩, ?_, v5, _, rfl⟩
      rw [v6, put_defers, j6, k6]
    | false =>
      have he3 : ∀ t, VR s3 ((ρ8.put (some 17) (.bool true)) t) ((a2.put (some 17) (.bool true)).tmps.getD t undef) := put_env (fun t => (j4 t).mono n1) (fun d hd => by obtain rfl := Option.some.inj hd; rw [j5]; decide) (.bool true)
      obtain ⟨ρ9, htail, u0, u1, u3⟩ := seg_tail (P := P) (i1 := i1) (i2 := i2) (i3 := i3) (o1 := o1) (M := M2) h3 h2 (ρ := ρ8.put (some 17) (.bool true)) (n := (i : Int)) (by rw [put_ne _ _ (by decide), m3, q3']; rfl) (put_eq _ _ _)
      obtain ⟨s4, a4, w4, v1, v2, v3, v4, v5, v6⟩ := htail base s3 (a2.put (some 17) (.bool true)) w3 b cs n3.rel.re he3 (by rw [put_size]; exact j5)
      rw [put_ne _ _ (by decide), m0, q0] at u0
      rw [put_ne _ _ (by decide), m1, q1] at u1
      rw [fw_small (by omega) (by omega)] at u3
      obtain ⟨s5, w5, a5, tf, x1, x2, x3, x4, x5, x6⟩ := back_loopX hX hC hm hp1 hp2 h1 h3 h2 hls hlb hr hra hrb hrp hrn hrs i M2 q M' (by omega) h ⟨n3.rel.back v3, v3.below.other l _ n3.rcd rfl⟩ (fun t => ((((hrt t).mono k1).mono j1).mono n1).mono v1) v4 v5 u0 u1 u3 b cs
      refine ⟨s5, w5, a5, tf, Inj.le_trans k1 (Inj.le_trans j1 (Inj.le_trans n1 (Inj.le_trans v1 x1))), Steps.trans k2 (Steps.trans j2 (.head hy (Steps.trans n2 (Steps.trans v2 x2)))), x3, ?_, x5, x6⟩
      rw [x4, v6, put_defers, j6, k6]
theorem ago_backX (hX : ExtOk P X) (hC : CS P C) (hm : P.follows .mixedOrders = true) {fB : FuncId} {T e el : TypeId} (hB : IsBack P fB T e) {N : Nat} {k : List Item} {ρ : Go.Ri.T Value} {ds : List Deferred} {M M1 M' : Mem} {q0 : Bool} {R : ADone → Env → List Deferred → AW → Prop} {g : Operand} {p1 p2 : Nat} {assign body : Code} {bx L c : Nat} {q : Option Addr}
    (hg : okv P.globals.size (slot ρ) g = some (.func (.func fB) ⟨[]⟩ ⟨[.pointer (some ⟨bx, 0, none⟩)]⟩)) (hT : P.underlying T = some (.slice el))
    (hs : eLoad P (fun _ => .pointer (some ⟨bx, 0, none⟩)) M T (.tmp 0) = some (.slice q L c, M1)) (hL : L ≤ 4611686018427387904) (hp1 : p1 < N) (hp2 : p2 < N)
    (hr : bkRunX P X C N tab2 T e p1 p2 assign body bx ρ L L M = some (q0, M')) (h : AGo P N (jmpK q0 k) (slot ρ) ds M'.abs R) : AGo P N (.code (.rangeFunc g #[p1, p2] assign body) :: k) (slot ρ) ds M.abs R := by
  obtain ⟨fn, i0, i1, i2, i3, o0, o1, o2, o3, ti, tj, tk, tl, tm, tn, ts, hfn, hname, hnt, hres, hbody, h0, h1, h3, h2⟩ := hB.ex
  intro base w0 s a w b cs hst
  have hM1 : M1 = M := quiet_spec (P := P) (ρ := fun _ => .pointer (some ⟨bx, 0, none⟩)) (op := .load T (.tmp 0)) rfl hs
  subst hM1
  let b0 : Frame := { b with roundOf := none }
  have hat : ∀ (a : Act) (t : List Item), b.at a t = b0.atR a t := fun a t => (Frame.atR_of_none (b := b0) rfl a t).symm
  obtain ⟨g1, g2⟩ := okv_spec hg
  have hv := hst.eval g1
  rw [g2] at hv
  obtain ⟨a', c', e1, e2, e3⟩ := hv.func_inv
  have ea : a' = #[] := Array.toList_eq_nil_iff.1 (List.length_eq_zero_iff.1 e2.length.symm)
  subst ea
  obtain ⟨x, rfl⟩ : ∃ x, c' = #[x] := by
    have := e3.length
    rcases c' with ⟨l⟩
    match l, this with
    | [x], _ => exact ⟨x, rfl⟩
  have hx : VR s (.pointer (some ⟨bx, 0, none⟩)) x := by cases e3 with | cons h t => exact h
  let wd : World := w.alloc (.deferred (some []))
  let l : Nat := w.heap.size + 1
  let r : Loop := { state := .ready, pending := none, fn := b0.fn, tmps := a.tmps, params := #[p1, p2], assign, body, defers := w.heap.size }
  let w1 : World := wd.alloc (.loop r)
  let mk : Deferred := { target := .collected w.heap.size, args := #[] }
  have hel : (Instr.enterLoop b0.fn a.tmps #[p1, p2] assign body b0.roundOf).run P w = .ok (l, [mk]) w1 := run_enterLoop_outer ..
  have hres' : (resolve a.eval (rangeCall g l) 0).run P w1 = .ok { target := .fn (.func fB) #[x], args := #[.func (.yield l) #[] #[]] } w1 := by
    have hc : a.eval (.const (.func (.yield l) #[] #[])) = .func (.yield l) #[] #[] := rfl
    simp [resolve, rangeCall, e1, hc, Deferred.ofValue]
  have hinv : (invoke (.fn (.func fB) #[x]) #[.func (.yield l) #[] #[]]).run P w1 = .ok (.enter fB #[.func (.yield l) #[] #[], x]) w1 := by
    simp only [invoke]
    rw [run_callFunc hfn hname hbody]
    rfl
  have hs0 := stepR_rangeFunc (P := P) (b := b0) (a := a) (k := k) (cs := cs) (w := w) hel hres' hinv
  have hsz : wd.heap.size = l := by simp [wd, l]
  have hr1 : Rel P.globals.size base wd s M1.abs w1 := (hst.rel.re.allocObj _).re.allocObj _
  have hrd : w1.heap[l]? = some (.loop r) := by
    rw [← hsz]; exact World.alloc_heap_new wd _
  have hlb : ¬ base l := fun hb => by have := hst.rel.hbase l hb; simp only [l] at this; omega
  obtain ⟨henv, hnn⟩ := init_env (s := s) (args := [.func (.yield l) #[] #[], .pointer (some ⟨bx, 0, none⟩)]) (args' := [.func (.yield l) #[] #[], x]) (N := 19) (.cons (.func _ .nil .nil) (.cons hx .nil)) (by simp)
  let b2 : Frame := { (default : Frame) with fn := fB, kind := .normal, roundOf := none }
  let a2 : Act := { tmps := #[.func (.yield l) #[] #[], x] ++ Array.replicate (19 - 2) undef, defers := [] }
  have henter : Frame.enter P fB #[.func (.yield l) #[] #[], x] .normal = b2.atR a2 [.code (.seq (.region i0 o0 false) (.block 0 (.loop (lpB i1 i2 i3 o1 o2 o3))))] := by
    simp [Frame.enter, Frame.atR, hfn, hbody, hnt, b2, a2]
  have seg0 : Seg P 19 [.code (.seq (.region i0 o0 false) (.block 0 (.loop (lpB i1 i2 i3 o1 o2 o3))))] (lpH i1 i2 i3 o1 o2 o3) (Env.init [.func (.yield l) #[] #[], .pointer (some ⟨bx, 0, none⟩)])
      (((((Env.init [.func (.yield l) #[] #[], .pointer (some ⟨bx, 0, none⟩)]).put (some 4) (.slice q L c)).put (some 5) (.int .i64 (.ofNat L))).put (some 6) (.int .i64 (fw .i64 (.ofNat L - 1)))).put (some 3) (.int .i64 (fw .i64 (.ofNat L - 1)))) M1.abs M1.abs := by
    refine (Seg.one fun _ _ _ _ => stepR_seq).trans ?_
    refine (Seg.regionN (shp_size h0)).trans ?_
    refine (Seg.shp (N := 19) (i := 0) (rest := [1, 2, 3]) h0 rfl (by decide) (fun c => by simp) (v := .slice q L c) (M' := M1) ?_).trans ?_
    · show eLoad P _ M1 T (.tmp 1) = _
      rw [← hs]; exact eLoad_eq rfl
    refine (Seg.shp (N := 19) (i := 1) (rest := [2, 3]) h0 rfl (by decide) (fun c => by simp) (M' := M1) (eLen_slice hT (put_eq _ _ _))).trans ?_
    refine (Seg.shp (N := 19) (i := 2) (rest := [3]) h0 rfl (by decide) (fun c => by simp) (M' := M1) (eBin_sub (n := .ofNat L) (put_eq _ _ _) _)).trans ?_
    refine (Seg.shp (N := 19) (i := 3) (rest := []) h0 rfl (by decide) (fun c => by simp) (v := .int .i64 (fw .i64 (.ofNat L - 1))) (M' := M1) ?_).trans ?_
    · show some _ = some _
      rw [put_eq]
    refine Seg.regionEnd.trans ?_
    exact (Seg.one fun _ _ _ _ => stepR_block).trans (Seg.one fun _ _ _ _ => stepR_loop)
  obtain ⟨s1, a3, w2, k1, k2, k3, k4, k5, k6⟩ := seg0 base s a2 w1 b2 (b0.atR { a with defers := [mk] ++ a.defers } (.inRangeFunc l :: k) :: cs) hr1.re henv hnn
  obtain ⟨s2, w3, a4, tf, j1, j2, j3, j4, j5, jt⟩ := back_loopX (i1 := i1) (i2 := i2) (i3 := i3) hX hC hm hp1 hp2 h1 h3 h2 (Nat.le_of_eq hsz) hlb rfl rfl rfl rfl hst.size rfl L M1 q0 M' hL hr ⟨hr1.back k3, k3.below.other l _ hrd rfl⟩ (fun t => (hst.env t).mono k1) k4 k5
    (by simp only [Env.put_some]; rfl) (by simp only [Env.put_some]; rfl) (by rw [put_eq, fw_small (by have : (0 : Int) ≤ Int.ofNat L := Int.natCast_nonneg L; omega) (by have : Int.ofNat L = (L : Int) := rfl; omega)]; rfl) b2 (b0.atR { a with defers := [mk] ++ a.defers } (.inRangeFunc l :: k) :: cs)
  have hs1 : step P (lone (b2.atR a4 tf) (b0.atR { a with defers := [mk] ++ a.defers } (.inRangeFunc l :: k) :: cs) w3) = .next (lone { b2.atR a4 tf with mode := .returning } (b0.atR { a with defers := [mk] ++ a.defers } (.inRangeFunc l :: k) :: cs) w3) := by
    cases q0 with
    | false => obtain rfl : tf = [] := jt; exact stepR_end rfl
    | true => obtain ⟨k', rfl⟩ : ∃ k', tf = .code .ret :: k' := jt; exact stepR_ret rfl
  obtain ⟨v', hv1, _⟩ := ares_0 (P := P) (N := 19) (ρ := fun _ => undef) (aw := M'.abs) hres base wd s2 (Array.replicate 19 undef) w3 j3.rel (fun t => by
    have : (Array.replicate 19 undef).getD t undef = undef := by simp [Array.getD]
    rw [this]; exact VR.undef) (by simp)
  have hlv : Frame.leaving P { b2.atR a4 tf with mode := .returning } w3 (.returned v') := by
    refine ⟨rfl, by show a4.defers = []; rw [j4, k6], rfl, fn, hfn, ?_⟩
    have hi : ∀ t1 t2, results fn t1 = results fn t2 := fun t1 t2 => by unfold results; rw [hres]; simp
    rw [hi _ (Array.replicate 19 undef)]
    exact hv1
  have hs2 := step_leave_returned (c := b0.atR { a with defers := [mk] ++ a.defers } (.inRangeFunc l :: k)) (cs := cs) hlv
  rw [finish_atR_inRangeFunc] at hs2
  have hend := run_endLoop (P := P) j3.rcd (by cases q0 <;> simp [r, jmpR])
  have hs3 := stepR_endRangeFunc (P := P) (b := b0) (a := { a with defers := [mk] ++ a.defers }) (k := k) (cs := cs) hend
  have hr4 : Rel P.globals.size base wd s2 M'.abs (w3.putObj l (.loop { jmpR q0 r with state := .exhausted })) := j3.rel.putObj j3.rcd rfl (Nat.le_of_eq hsz) hlb _
  have hwd : Keep base w wd := (Keep.refl base w).alloc hst.rel.hbase _
  have hold : ∀ (r' : Nat) (o : Obj), wd.heap[r']? = some o → sto o = false → (w3.putObj l (.loop { jmpR q0 r with state := .exhausted })).heap[r']? = some o := fun r' o ho hc => hr4.below.other r' o ho hc
  have hst4 : St P.globals.size base w0 s2 (slot ρ) N ds M'.abs { a with defers := [mk] ++ a.defers } (w3.putObj l (.loop { jmpR q0 r with state := .exhausted })) := by
    refine ⟨?_, fun t => ((hst.env t).mono k1).mono j1, hst.size, .mark _ ((hst.dfr.mono k1).mono j1), ?_, ?_⟩
    · exact ⟨hr4.fresh, hr4.mfresh, hr4.blk, hr4.sep, hr4.hbase, hr4.glob, (hst.rel.below.trans hwd).trans hr4.below, hr4.maps⟩
    · intro r' hr'
      have hr' : r' ∈ w.heap.size :: marks a.defers := hr'
      rcases List.mem_cons.1 hr' with rfl | hr'
      · refine ⟨⟨hst.rel.below.size, fun hb => Nat.lt_irrefl _ (hst.rel.hbase _ hb)⟩, hold _ _ (World.alloc_heap_new w _) rfl⟩
      · obtain ⟨m1, m2⟩ := hst.mrk r' hr'
        exact ⟨m1, hold _ _ (hwd.other r' _ m2 rfl) rfl⟩
    · show (w.heap.size :: marks a.defers).Nodup
      refine List.nodup_cons.2 ⟨fun hm => ?_, hst.nd⟩
      have := (Array.getElem?_eq_some_iff.1 (hst.mrk _ hm).2).1
      omega
  have hjk : ((jmpR q0 r).pending.map Item.code).toList ++ k = jmpK q0 k := by cases q0 <;> rfl
  rw [hjk] at hs3
  obtain ⟨m, t', a5, w5, q1, s5, d5, ρ5, ds5, aw5, q2, q3⟩ := h base w0 s2 _ _ b cs hst4
  refine ⟨m, t', a5, w5, ?_, s5, d5, ρ5, ds5, aw5, Inj.le_trans k1 (Inj.le_trans j1 q2), q3⟩
  rw [hat]
  refine .head hs0 ?_
  rw [henter]
  refine Steps.trans k2 (Steps.trans j2 (.head hs1 (.head hs2 (.head hs3 ?_))))
  rw [hat] at q1
  exact q1
end
end Go.Ri
