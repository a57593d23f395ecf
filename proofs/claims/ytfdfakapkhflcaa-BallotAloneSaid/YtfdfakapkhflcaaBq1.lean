/- Straight pieces of a run, in whatever frame; what an operation, a call, a straight code comes to. -/
import Derived.Test.YtfdfakapkhflcaaL3
import Derived.RangeFuncIn
set_option linter.unusedSimpArgs false
set_option linter.unusedVariables false
set_option linter.unusedSectionVars false
namespace Go.Ri
open Go Go.Am Go.RowKit
variable [SymE] [FT] [FTok]
def Seg (P : Program) (N : Nat) (t t' : List Item) (ρ ρ' : Env) (aw aw' : AW) : Prop :=
  ∀ (base : Nat → Prop) (s : Inj) (a : Act) (w : World) (b : Frame) (cs : List Frame), Rel P.globals.size base w s aw w → (∀ t, VR s (ρ t) (a.tmps.getD t undef)) → a.tmps.size = N →
    ∃ s' a' w', s.le s' ∧ Steps P (lone (b.atR a t) cs w) (lone (b.atR a' t') cs w') ∧ Rel P.globals.size base w s' aw' w' ∧ (∀ t, VR s' (ρ' t) (a'.tmps.getD t undef)) ∧ a'.tmps.size = N ∧ a'.defers = a.defers
section
variable {P : Program} {N : Nat} {t t' t2 : List Item} {ρ ρ' ρ2 : Env} {aw aw' aw2 : AW} {k : List Item}
theorem Seg.refl : Seg P N t t ρ ρ aw aw := fun base s a w b cs hr he hn => ⟨s, a, w, Inj.le_refl s, Steps.refl P _, hr, he, hn, rfl⟩
theorem Seg.trans (h : Seg P N t t' ρ ρ' aw aw') (k : Seg P N t' t2 ρ' ρ2 aw' aw2) : Seg P N t t2 ρ ρ2 aw aw2 := by
  intro base s a w b cs hr he hn
  obtain ⟨s1, a1, w1, h1, h2, h3, h4, h5, h6⟩ := h base s a w b cs hr he hn
  obtain ⟨s2, a2, w2, k1, k2, k3, k4, k5, k6⟩ := k base s1 a1 w1 b cs h3.re h4 h5
  exact ⟨s2, a2, w2, Inj.le_trans h1 k1, Steps.trans h2 k2, h3.back k3, k4, k5, k6.trans h6⟩
theorem Seg.one (hs : ∀ (b : Frame) (a : Act) (cs : List Frame) (w : World), step P (lone (b.atR a t) cs w) = .next (lone (b.atR a t') cs w)) : Seg P N t t' ρ ρ aw aw :=
  fun base s a w b cs hr he hn => ⟨s, a, w, Inj.le_refl s, .one (hs b a cs w), hr, he, hn, rfl⟩
theorem evalR {base : Nat → Prop} {w0 w : World} {s : Inj} {a : Act} (hr : Rel P.globals.size base w0 s aw w) (he : ∀ t, VR s (ρ t) (a.tmps.getD t undef)) {x : Operand} (hx : okOpd P.globals.size x = true) : VR s (ρ.eval x) (a.eval x) := by
  cases x with
  | tmp t => exact he t
  | const v => exact VR.ofPlain hx
  | global g =>
    obtain ⟨e, h1, h2, h3⟩ := hr.glob g (by simpa [okOpd] using hx)
    have := VR.ptr (s := s) (b := g) (o := 0) h1
    simpa [Env.eval, Act.eval, h2, h3] using this
  | func f => exact .func _ .nil .nil
theorem Seg.cond {c : Operand} {x y : Code} {q : Bool} (hc : okOpd P.globals.size c = true) (h : ρ.eval c = .bool q) : Seg P N (.code (.cond c x y) :: k) (.code (if q then x else y) :: k) ρ ρ aw aw := by
  intro base s a w b cs hr he hn
  have hv := evalR hr he hc
  rw [h] at hv
  exact ⟨s, a, w, Inj.le_refl s, .one (stepR_cond hv.bool_inv), hr, he, hn, rfl⟩
variable {ops : Array Oper} {i d : Nat} {rest : List Nat} {o : Oper} {oq : Op} {M M' : Mem} {v : Value}
theorem wantedN (hg : o.guard = none) (ops : Array Oper) (tmps : Array Value) : Region.wanted o (yielded ops tmps) = true := by unfold Region.wanted; rw [hg]
theorem Seg.val (ho : ops[i]? = some o) (hg : o.guard = none) (hd : ∀ d, o.dst = some d → d < N) (hnd : ∀ c, o.op ≠ .defer c) (hv : OpV P o ρ aw v aw') : Seg P N (.inRegion ops (i :: rest) :: k) (.inRegion ops rest :: k) ρ (ρ.put o.dst v) aw aw' := by
  intro base s a w b cs hr he hn
  obtain ⟨n, v', w', s', h1, h2, h3, h4, h5⟩ := hv base w s a.eval w hr (fun x hx => evalR hr he hx)
  have hst := stepGR_op (P := P) (b := b) (k := k) (cs := cs) (w := w) (rest := rest) ho (wantedN hg ops a.tmps)
  rw [Oper.semAt_eq _ _ _ hnd] at hst
  have hfin : ∀ v, (b.atR a (.inRegion ops (i :: rest) :: k)).finish v = b.atR (a.put o.dst v) (.inRegion ops rest :: k) := by
    intro v; rw [Frame.finish_atR, ho]; rfl
  refine ⟨s', a.put o.dst v', w', h3, .one (step_lone_go ?_), h4, put_env (fun t => (he t).mono h3) (by rw [hn]; exact hd) h5, by rw [put_size]; exact hn, put_defers ..⟩
  rw [hst, ← hfin]
  rcases h2 with rfl | ⟨rfl, rfl⟩ <;> simp [stepG.apply, h1]
theorem Seg.call {fid : FuncId} {args : List Value} (ho : ops[i]? = some o) (hg : o.guard = none) (hd : ∀ d, o.dst = some d → d < N) (hnd : ∀ c, o.op ≠ .defer c) (hc : OpC P o ρ fid args)
    (h : ACalls P fid args aw fun e aw1 => e = .returned v ∧ aw1 = aw') : Seg P N (.inRegion ops (i :: rest) :: k) (.inRegion ops rest :: k) ρ (ρ.put o.dst v) aw aw' := by
  intro base s a w b cs hr he hn
  obtain ⟨args', h1, h2⟩ := hc s a.eval w (fun x hx => evalR hr he hx)
  have hst := stepGR_op (P := P) (b := b) (k := k) (cs := cs) (w := w) (rest := rest) ho (wantedN hg ops a.tmps)
  rw [Oper.semAt_eq _ _ _ hnd] at hst
  have hfin : ∀ v, (b.atR a (.inRegion ops (i :: rest) :: k)).finish v = b.atR (a.put o.dst v) (.inRegion ops rest :: k) := by
    intro v; rw [Frame.finish_atR, ho]; rfl
  obtain ⟨e, w', fr, ⟨s', ae, aw1, k1, k2, k3, rfl, rfl⟩, hcs, _, hlv⟩ := h base w s args' w hr h2 (b.atR a (.inRegion ops (i :: rest) :: k) :: cs)
  cases k3 with
  | returned hv =>
    rename_i v'
    have henter : step P (lone (b.atR a (.inRegion ops (i :: rest) :: k)) cs w) = .next (lone (Frame.enter P fid args'.toArray .normal) (b.atR a (.inRegion ops (i :: rest) :: k) :: cs) w) :=
      step_lone_go (by rw [hst]; simp [stepG.apply, h1, Frame.atR])
    refine ⟨s', a.put o.dst v', w', k1, .head henter (Steps.trans hcs (.one ?_)), k2, put_env (fun t => (he t).mono k1) (by rw [hn]; exact hd) hv, by rw [put_size]; exact hn, put_defers ..⟩
    rw [← hfin]; exact step_leave_returned hlv
theorem Seg.op (ho : ops[i]? = some o) (hop : o.op = oq) (hds : o.dst = some d) (hg : o.guard = none) (hd : d < N) (hnd : ∀ c, oq ≠ .defer c) (he : eOp P ρ M oq = some (v, M')) : Seg P N (.inRegion ops (i :: rest) :: k) (.inRegion ops rest :: k) ρ (ρ.put (some d) v) M.abs M'.abs := by
  have := Seg.val (k := k) (rest := rest) (N := N) ho hg (fun d' h' => by rw [hds] at h'; obtain rfl := Option.some.inj h'; exact hd) (by rw [hop]; exact hnd) (eOp_spec (by rw [hop]; exact he))
  rw [hds] at this
  exact this
theorem Seg.region {id : Nat} : Seg P N (.code (.region id ops false) :: k) (.inRegion ops (List.range ops.size) :: k) ρ ρ aw aw := .one fun _ _ _ _ => stepR_region
theorem Seg.regionEnd : Seg P N (.inRegion ops [] :: k) k ρ ρ aw aw := .one fun _ _ _ _ => stepR_region_end
end
noncomputable def sOp (P : Program) (C : Caller) (o : Oper) (ρ : T Value) (M : Mem) : Option (Value × Mem) := match o.guard with
  | some _ => none
  | none => (match o.op with
    | .call ⟨.value z, ⟨xs⟩, _⟩ => (match calls P (slot ρ) z xs with
      | none => none
      | some (g, l) => (match C g l M with
        | some (.returned v, M') => some (v, M')
        | _ => none))
    | .defer _ => none
    | op => eOp P (slot ρ) M op)
noncomputable def sOps (P : Program) (C : Caller) (N : Nat) (l : List Oper) : T Value → Mem → Option (T Value × Mem) := List.rec (motive := fun _ => T Value → Mem → Option (T Value × Mem)) (fun ρ M => some (ρ, M))
  (fun o _ ih ρ M => match sOp P C o ρ M with
    | none => none
    | some (v, M') => doV v fun v => doT (putS ρ o.dst v) fun ρ => doM M' fun M' => ih ρ M') l
noncomputable def sRun (P : Program) (C : Caller) (N : Nat) (n : Nat) : List Item → T Value → Mem → Option (T Value × Mem) := Nat.rec (motive := fun _ => List Item → T Value → Mem → Option (T Value × Mem)) (fun _ _ _ => none)
  (fun _ ih l ρ M => match l with
    | [] => some (ρ, M)
    | .code c :: k => (match c with
      | .skip => ih k ρ M
      | .seq x y => ih (.code x :: .code y :: k) ρ M
      | .block id c => ih (.code c :: .inBlock id :: k) ρ M
      | .cond c x y => (match okv P.globals.size (slot ρ) c with
        | some (.bool true) => ih (.code x :: k) ρ M
        | some (.bool false) => ih (.code y :: k) ρ M
        | _ => none)
      | .region _ ops false => bif dstsOk N ops then (match sOps P C N ops.toList ρ M with
        | some (ρ, M) => ih k ρ M
        | none => none) else none
      | _ => none)
    | .inBlock _ :: k => ih k ρ M
    | _ => none) n
section
variable {P : Program} {C : Caller} {N : Nat}
theorem sOp_spec (hC : CS P C) {ops : Array Oper} (hN : dstsOk N ops = true) {i : Nat} {o : Oper} (ho : ops[i]? = some o) {rest : List Nat} {k : List Item} {ρ : T Value} {M M' : Mem} {v : Value} (h : sOp P C o ρ M = some (v, M')) :
    Seg P N (.inRegion ops (i :: rest) :: k) (.inRegion ops rest :: k) (slot ρ) (slot (putS ρ o.dst v)) M.abs M'.abs := by
  have hd : ∀ d, o.dst = some d → d < N := fun d hd => dstsOk_get hN (j := i) (by simp [ho, hd])
  rw [slot_put]
  unfold sOp at h
  split at h
  · cases h
  rename_i hg
  generalize hop : o.op = op at h
  split at h
  · rename_i z xs ts
    split at h
    · cases h
    rename_i g l hc
    split at h
    · rename_i v' M2 hr
      simp only [Option.some.injEq, Prod.mk.injEq] at h
      obtain ⟨rfl, rfl⟩ := h
      refine Seg.call ho hg hd (fun c => by rw [hop]; exact fun h => by cases h) (calls_spec hop hc) (ACalls.mono (hC _ _ _ _ _ hr) fun e aw' he => ?_)
      exact he
    · cases h
  · cases h
  · rename_i hnc hnd
    exact Seg.val ho hg hd (fun c => by rw [hop]; exact hnd c) (eOp_spec (by rw [hop]; exact h))
theorem sOps_spec (hC : CS P C) {ops : Array Oper} (hN : dstsOk N ops = true) {k : List Item} : ∀ (l : List Oper) (i : Nat) (ρ ρ' : T Value) (M M' : Mem), ops.toList.drop i = l → sOps P C N l ρ M = some (ρ', M') →
    Seg P N (.inRegion ops (List.range' i l.length) :: k) k (slot ρ) (slot ρ') M.abs M'.abs
  | [], i, ρ, ρ', M, M', hl, h => by
    have h : some (ρ, M) = some (ρ', M') := h
    simp only [Option.some.injEq, Prod.mk.injEq] at h
    obtain ⟨rfl, rfl⟩ := h
    exact Seg.regionEnd
  | o :: l, i, ρ, ρ', M, M', hl, h => by
    have hi : i < ops.toList.length := by
      rcases Nat.lt_or_ge i ops.toList.length with h | h
      · exact h
      · rw [List.drop_eq_nil_of_le h] at hl; cases hl
    rw [List.drop_eq_getElem_cons hi] at hl
    injection hl with h1 h2
    have ho : ops[i]? = some o := by
      rw [← h1]
      have hi' : i < ops.size := by simpa using hi
      simp [hi']
    have h : (match sOp P C o ρ M with
      | none => none
      | some (v, M') => doV v fun v => doT (putS ρ o.dst v) fun ρ => doM M' fun M' => sOps P C N l ρ M') = some (ρ', M') := h
    split at h
    · cases h
    rename_i v M2 hv
    rw [doV_eq, doT_eq, doM_eq] at h
    exact (sOp_spec hC hN ho hv).trans (sOps_spec hC hN l (i + 1) _ _ _ _ h2 h)
theorem sRun_spec (hC : CS P C) {kk : List Item} : ∀ (n : Nat) (l : List Item) (ρ ρ' : T Value) (M M' : Mem), sRun P C N n l ρ M = some (ρ', M') → Seg P N (l ++ kk) kk (slot ρ) (slot ρ') M.abs M'.abs
  | 0, l, ρ, ρ', M, M', h => by cases h
  | n + 1, l, ρ, ρ', M, M', h0 => by
    have ih := sRun_spec hC (kk := kk) n
    have h : (match (generalizing := false) l with
      | [] => some (ρ, M)
      | .code c :: k => (match (generalizing := false) c with
        | .skip => sRun P C N n k ρ M
        | .seq x y => sRun P C N n (.code x :: .code y :: k) ρ M
        | .block id c => sRun P C N n (.code c :: .inBlock id :: k) ρ M
        | .cond c x y => (match okv P.globals.size (slot ρ) c with
          | some (.bool true) => sRun P C N n (.code x :: k) ρ M
          | some (.bool false) => sRun P C N n (.code y :: k) ρ M
          | _ => none)
        | .region _ ops false => bif dstsOk N ops then (match sOps P C N ops.toList ρ M with
          | some (ρ, M) => sRun P C N n k ρ M
          | none => none) else none
        | _ => none)
      | .inBlock _ :: k => sRun P C N n k ρ M
      | _ => none) = some (ρ', M') := h0
    clear h0
    split at h
    · simp only [Option.some.injEq, Prod.mk.injEq] at h
      obtain ⟨rfl, rfl⟩ := h
      exact .refl
    · split at h
      · exact (Seg.one fun _ _ _ _ => stepR_skip).trans (ih _ _ _ _ _ h)
      · exact (Seg.one fun _ _ _ _ => stepR_seq).trans (ih _ _ _ _ _ h)
      · exact (Seg.one fun _ _ _ _ => stepR_block).trans (ih _ _ _ _ _ h)
      · split at h
        · rename_i hc
          obtain ⟨c1, c2⟩ := okv_spec hc
          exact (Seg.cond c1 c2).trans (ih _ _ _ _ _ h)
        · rename_i hc
          obtain ⟨c1, c2⟩ := okv_spec hc
          exact (Seg.cond c1 c2).trans (ih _ _ _ _ _ h)
        · cases h
      · rename_i k0 c0 id ops
        rw [cond_some] at h
        obtain ⟨hN, h⟩ := h
        split at h
        · rename_i ρ2 M2 hs
          have := sOps_spec hC hN (k := k0 ++ kk) ops.toList 0 _ _ _ _ rfl hs
          rw [Array.length_toList, ← List.range_eq_range'] at this
          exact (Seg.region (id := id)).trans (this.trans (ih _ _ _ _ _ h))
        · cases h
      · cases h
    · exact (Seg.one fun _ _ _ _ => stepR_inBlock).trans (ih _ _ _ _ _ h)
    · cases h
end
end Go.Ri
