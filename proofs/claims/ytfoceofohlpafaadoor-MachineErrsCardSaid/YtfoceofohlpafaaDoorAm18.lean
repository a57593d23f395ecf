/- Frames with deferred calls, and recover. -/
import Derived.Test.YtfoceofohlpafaaDoorAm17
import Derived.Recover
set_option linter.unusedSimpArgs false
set_option linter.unusedVariables false
set_option linter.unusedSectionVars false
namespace Go.Am
open Go Go.RowKit
variable [SymE]

def asettle : ADone → ADone
  | .panic (⟨_, true, _⟩ :: older) => (match older.dropWhile (!·.goexit) with
    | [] => .ret
    | r => .panic r)
  | d => d
def araised : ADone → List PanicEntry → ADone
  | .panic old, ch => .panic (ch ++ old)
  | .ret, ch => .panic ch
theorem CRs.append {s : Inj} : ∀ {a b c d : List PanicEntry}, CRs s a b → CRs s c d → CRs s (a ++ c) (b ++ d)
  | _, _, _, _, .nil, h => h
  | _, _, _, _, .cons h t, k => .cons h (t.append k)
theorem CRs.dropWhile {s : Inj} : ∀ {a b : List PanicEntry}, CRs s a b → CRs s (a.dropWhile (!·.goexit)) (b.dropWhile (!·.goexit))
  | _, _, .nil => .nil
  | _, _, .cons (g := g) h t => by
    cases g
    · simpa [List.dropWhile_cons] using t.dropWhile
    · simpa [List.dropWhile_cons] using CRs.cons h t
theorem MR.settle {s : Inj} {u : ADone} {m : FrameMode} (h : MR s u m) : MR s (asettle u) (settle m) := by
  cases h with
  | ret => exact .ret
  | panic h =>
    cases h with
    | nil => exact .panic .nil
    | cons hv t =>
      rename_i v1 v2 r g l1 l2
      cases r with
      | false => exact .panic (.cons hv t)
      | true =>
        have hd := t.dropWhile
        simp only [asettle, Go.settle]
        generalize List.dropWhile (fun x : PanicEntry => !x.goexit) l1 = x at hd
        generalize List.dropWhile (fun x : PanicEntry => !x.goexit) l2 = y at hd
        cases hd with
        | nil => exact .ret
        | cons h t => exact .panic (.cons h t)
theorem MR.raised {s : Inj} {u : ADone} {m : FrameMode} {c1 c2 : List PanicEntry} (h : MR s u m) (hc : CRs s c1 c2) : MR s (araised u c1) (Go.raised m c2) := by
  cases h with
  | ret => exact .panic hc
  | panic h => exact .panic (hc.append h)
theorem MR.mono {s t : Inj} (hst : s.le t) {u : ADone} {m : FrameMode} (h : MR s u m) : MR t u m := by
  cases h with
  | ret => exact .ret
  | panic h => exact .panic (h.mono hst)
theorem MR.ne_run {s : Inj} {u : ADone} {m : FrameMode} (h : MR s u m) : m ≠ .run := by cases h <;> simp

section
variable {P : Program}
/-- a deferred call, beneath a frame in the mode u -/
def ACallsD (P : Program) (f : FuncId) (args : List Value) (u : ADone) (aw : AW) (Q : AEnd → ADone → AW → Prop) : Prop :=
  ∀ (base : Nat) (w0 : World) (s : Inj) (args' : List Value) (w : World) (m : FrameMode), Rel P.globals.size base w0 s aw w → VRs s args args' → MR s u m →
    CallsD P f args'.toArray m w fun e m' w' => ∃ s' ae u' aw', s.le s' ∧ Rel P.globals.size base w0 s' aw' w' ∧ ER s' ae e ∧ MR s' u' m' ∧ Q ae u' aw'
theorem ACallsD.mono {f : FuncId} {args : List Value} {u : ADone} {aw : AW} {Q Q' : AEnd → ADone → AW → Prop} (h : ACallsD P f args u aw Q) (hq : ∀ e u w, Q e u w → Q' e u w) : ACallsD P f args u aw Q' :=
  fun base w0 s args' w m hr hv hm => (h base w0 s args' w m hr hv hm).mono fun _ _ _ ⟨s', ae, u', aw', h1, h2, h3, h4, h5⟩ => ⟨s', ae, u', aw', h1, h2, h3, h4, hq _ _ _ h5⟩

/-- what a frame comes to, when its deferred calls are made -/
def ALeaves (P : Program) (fn : Func) (N : Nat) (ρ : Env) (Q : AEnd → AW → Prop) : List Deferred → ADone → AW → Prop
  | [], .ret, aw => ∃ v, ARes P fn N ρ aw v ∧ Q (.returned v) aw
  | [], .panic ch, aw => Q (.panicked ch) aw
  | d :: ds, u, aw => ∃ g cap, d.target = .fn (.func g) cap ∧ IsFn P g ∧ ACallsD P g (d.args.toList ++ cap.toList) u aw fun
      | .returned _, u', aw' => ALeaves P fn N ρ Q ds (asettle u') aw'
      | .panicked ch, u', aw' => ALeaves P fn N ρ Q ds (araised u' ch) aw'

theorem aleaves_leaves {fn : Func} {N : Nat} {ρ : Env} {Q : AEnd → AW → Prop} {base : Nat} {w0 : World} : ∀ {ds : List Deferred} {u : ADone} {aw : AW} {s : Inj} {ds' : List Deferred} {m : FrameMode} {tmps : Array Value} {w : World},
    ALeaves P fn N ρ Q ds u aw → Rel P.globals.size base w0 s aw w → (∀ t, VR s (ρ t) (tmps.getD t undef)) → tmps.size = N → DRs s ds ds' → MR s u m →
    Leaves P fn tmps (fun e w' => ∃ s' ae aw', s.le s' ∧ Rel P.globals.size base w0 s' aw' w' ∧ ER s' ae e ∧ Q ae aw') ds' m w
  | [], .ret, aw, s, ds', m, tmps, w, h, hr, he, hN, hd, hm => by
    cases hd; cases hm
    obtain ⟨v, h1, h2⟩ := h
    obtain ⟨v', g1, g2⟩ := h1 base w0 s tmps w hr he hN
    exact ⟨v', g1, s, _, aw, Inj.le_refl s, hr, .returned g2, h2⟩
  | [], .panic ch, aw, s, ds', m, tmps, w, h, hr, he, hN, hd, hm => by
    cases hd
    cases hm with
    | panic hc => exact ⟨s, _, aw, Inj.le_refl s, hr, .panicked hc, h⟩
  | d :: ds, u, aw, s, ds', m, tmps, w, h, hr, he, hN, hd, hm => by
    obtain ⟨g, cap, h1, ⟨fn', c, hf, hn, hb⟩, h3⟩ := h
    cases hd with
    | cons ht ha hds =>
      rename_i d2 l2
      rw [h1] at ht
      generalize htar : d2.target = tar at ht
      cases ht with
      | fn _ hcap =>
        rename_i cap'
        refine ⟨hm.ne_run, .func g, cap', g, d2.args ++ cap', htar, ?_, ?_⟩
        · rw [htar]
          simp only [invoke]
          rw [run_callFunc hf hn hb]
        · have hv : VRs s (d.args.toList ++ cap.toList) (d2.args ++ cap').toList := by
            rw [Array.toList_append]
            exact ha.append hcap
          have := h3 base w0 s _ w m hr hv hm
          refine this.mono fun e m' w' => ?_
          rintro ⟨s', ae, u', aw', e1, e2, e3, e4, e5⟩
          have fin : ∀ {q : ADone} {mm : FrameMode}, MR s' q mm → ALeaves P fn N ρ Q ds q aw' → Leaves P fn tmps (fun e w' => ∃ s' ae aw', s.le s' ∧ Rel P.globals.size base w0 s' aw' w' ∧ ER s' ae e ∧ Q ae aw') l2 mm w' := by
            intro q mm hq hl
            have := aleaves_leaves hl e2 (fun t => (he t).mono e1) hN (hds.mono e1) hq
            exact leaves_mono (fun e w' ⟨s2, ae, aw2, k1, k2⟩ => ⟨s2, ae, aw2, Inj.le_trans e1 k1, k2⟩) _ _ _ this
          cases e3 with
          | returned hv => exact fin e4.settle e5
          | panicked hc => exact fin (e4.raised hc) e5
where
  leaves_mono {fn : Func} {tmps : Array Value} {R R' : Ending → World → Prop} (h : ∀ e w, R e w → R' e w) : ∀ (ds : List Deferred) (u : FrameMode) (w : World), Leaves P fn tmps R ds u w → Leaves P fn tmps R' ds u w
  | [], .returning, w, ⟨v, h1, h2⟩ => ⟨v, h1, h _ _ h2⟩
  | [], .panicking _, w, hh => h _ _ hh
  | [], .run, w, hh => hh.elim
  | d :: ds, u, w, ⟨hu, fv, cap, f, args, h1, h2, h3⟩ => ⟨hu, fv, cap, f, args, h1, h2, h3.mono fun e u' w' hq => match e, hq with
    | .returned _, hq => leaves_mono h ds _ w' hq
    | .panicked _, hq => leaves_mono h ds _ w' hq
    | .outgrown, hq => h _ _ hq⟩

/-- a function, from its body; deferred calls are made at its end -/
theorem acalls_of_ago_d {f : FuncId} {fn : Func} {c : Code} {N : Nat} {args : List Value} {aw : AW} {Q : AEnd → AW → Prop}
    (hf : P.funcs[f]? = some fn) (hb : fn.body = some c) (hn : fn.ntmps = N) (hN : args.length ≤ N)
    (h : AGo P N [.code c] (Env.init args) [] aw fun d ρ ds aw' => ALeaves P fn N ρ Q ds d aw') : ACalls P f args aw Q := by
  intro base w0 s args' w hrel hv cs
  obtain ⟨henv, hsz⟩ := init_env hv hN
  let b : Frame := { (default : Frame) with fn := f, kind := .normal }
  let a : Act := { tmps := args'.toArray ++ Array.replicate (fn.ntmps - args'.toArray.size) undef, defers := [] }
  have henter : Frame.enter P f args'.toArray .normal = b.at a [.code c] := by
    simp [Frame.enter, Frame.at, hf, hb, b, a]
  rw [henter]
  obtain ⟨m, t', a', w', hs, s', d, ρ', ds', aw', hle, hst, hm, hl⟩ := h base w0 s a w b cs
    ⟨hrel, by simp only [a, hn]; exact henv, by simp only [a, hn]; exact hsz, .nil⟩
  have hL := aleaves_leaves hl hst.rel hst.env hst.size hst.dfr hm
  obtain ⟨e, w'', fr', hR, hcs, hfn, hlv⟩ := leaves_steps (P := P) (fn := fn) a'.defers m w' { b.at a' t' with mode := m } cs rfl rfl rfl hf rfl hL
  obtain ⟨s2, ae, aw2, k1, k2, k3, k4⟩ := hR
  exact ⟨e, w'', fr', ⟨s2, ae, aw2, Inj.le_trans hle k1, k2, k3, k4⟩, Comes.of_steps hs hcs, hfn, hlv⟩

/-- a deferred function that doesn't recover -/
theorem acallsD_of_ago {f : FuncId} {fn : Func} {c : Code} {N : Nat} {args : List Value} {aw : AW} {u : ADone} {Q : AEnd → ADone → AW → Prop}
    (hf : P.funcs[f]? = some fn) (hb : fn.body = some c) (hn : fn.ntmps = N) (hN : args.length ≤ N)
    (h : AGo P N [.code c] (Env.init args) [] aw fun d ρ ds aw' => ds = [] ∧ match d with
      | .ret => ∃ v, ARes P fn N ρ aw' v ∧ Q (.returned v) u aw'
      | .panic ch => Q (.panicked ch) u aw') : ACallsD P f args u aw Q := by
  intro base w0 s args' w m0 hrel hv hm0 c₀ cs hu
  obtain ⟨henv, hsz⟩ := init_env hv hN
  let b : Frame := { (default : Frame) with fn := f, kind := .deferred }
  let a : Act := { tmps := args'.toArray ++ Array.replicate (fn.ntmps - args'.toArray.size) undef, defers := [] }
  have henter : Frame.enter P f args'.toArray .deferred = b.at a [.code c] := by
    simp [Frame.enter, Frame.at, hf, hb, b, a]
  have hc : ({ c₀ with mode := m0 } : Frame) = c₀ := by subst hu; rfl
  rw [henter]
  obtain ⟨m, t', a', w', hs, s', d, ρ', ds', aw', hle, hst, hm, hds, hr⟩ := h base w0 s a w b (c₀ :: cs)
    ⟨hrel, by simp only [a, hn]; exact henv, by simp only [a, hn]; exact hsz, .nil⟩
  subst hds
  have hdef : a'.defers = [] := by
    have := hst.dfr
    generalize a'.defers = q at this
    cases this; rfl
  cases hm with
  | ret =>
    obtain ⟨v, hres, hq⟩ := hr
    obtain ⟨v', h1, h2⟩ := hres base w0 s' a'.tmps w' hst.rel hst.env hst.size
    exact ⟨.returned v', m0, w', _, ⟨s', .returned v, u, aw', hle, hst.rel, .returned h2, hm0.mono hle, hq⟩, (by rw [hc]; exact hs), rfl, rfl, hdef, fn, hf, h1⟩
  | panic hcr =>
    exact ⟨.panicked _, m0, w', _, ⟨s', .panicked _, u, aw', hle, hst.rel, .panicked hcr, hm0.mono hle, hr⟩, (by rw [hc]; exact hs), rfl, rfl, hdef, fn, hf⟩

/-- within a region: the rest of its operations -/
theorem ago_inRegion {N : Nat} {ops : Array Oper} {l : List Nat} {k : List Item} {ρ : Env} {ds : List Deferred} {aw : AW} {R : ADone → Env → List Deferred → AW → Prop}
    (h : AOps P N ops l ρ ds aw (fun ρ' ds' aw' => AGo P N k ρ' ds' aw' R) (fun ch ρ' ds' aw' => R (.panic ch) ρ' ds' aw')) : AGo P N (.inRegion ops l :: k) ρ ds aw R := by
  intro base w0 s a w b cs hst
  obtain ⟨e, a1, w1, hq, harr⟩ := wp_ops l a w (h base w0 s a w hst) b k cs
  cases e with
  | normal =>
    obtain ⟨s', ρ', ds', aw', hle, hst', hgo⟩ := hq
    obtain ⟨m, t', a', w', h1, s2, d, ρ2, ds2, aw2, h2, h3⟩ := hgo base w0 s' a1 w1 b cs hst'
    exact ⟨m, t', a', w', Steps.trans harr h1, s2, d, ρ2, ds2, aw2, Inj.le_trans hle h2, h3⟩
  | panic ch =>
    obtain ⟨s', ρ', ds', aw', ch', hle, hst', hc, hr⟩ := hq
    obtain ⟨todo, hs⟩ := harr
    exact ⟨.panicking ch, todo, a1, w1, hs, s', .panic ch', ρ', ds', aw', hle, hst', .panic hc, hr⟩
  | exit id => exact hq.elim
  | goto l => exact hq.elim
  | ret => exact hq.elim
  | outgrown => exact hq.elim

/-- silent steps ahead of the first region -/
inductive Silent : List Item → List Item → Prop
  | refl (l : List Item) : Silent l l
  | seq {x y : Code} {k l : List Item} (h : Silent (.code x :: .code y :: k) l) : Silent (.code (.seq x y) :: k) l
  | block {id : Nat} {c : Code} {k l : List Item} (h : Silent (.code c :: .inBlock id :: k) l) : Silent (.code (.block id c) :: k) l
  | scope {c : Code} {k l : List Item} (h : Silent (.code c :: .inScope c :: k) l) : Silent (.code (.scope c) :: k) l
  | skip {k l : List Item} (h : Silent k l) : Silent (.code .skip :: k) l
theorem Silent.steps {t t' : List Item} (h : Silent t t') (b : Frame) (a : Act) (cs : List Frame) (w : World) : Steps P (lone (b.at a t) cs w) (lone (b.at a t') cs w) := by
  induction h with
  | refl => exact Steps.refl P _
  | seq _ ih => exact .head step_seq ih
  | block _ ih => exact .head step_block ih
  | scope _ ih => exact .head step_scope' ih
  | skip _ ih => exact .head step_skip ih
/-- what recover gives, beneath a frame in that mode, and the mode behind it -/
def recovers : ADone → Value × ADone
  | .panic (⟨v, false, false⟩ :: older) => (v, .panic (⟨v, true, false⟩ :: older))
  | u => (.nilIface, u)
theorem acallsD_recover {f : FuncId} {fn : Func} {c : Code} {N : Nat} {args : List Value} {aw : AW} {u : ADone} {Q : AEnd → ADone → AW → Prop} {id : Nat} {ops : Array Oper} {o : Oper} {k : List Item} {rest : List Nat} {at' : Array TypeId}
    (hf : P.funcs[f]? = some fn) (hb : fn.body = some c) (hn : fn.ntmps = N) (hN : args.length ≤ N) (hsil : Silent [.code c] (.code (.region id ops false) :: k))
    (hl : List.range ops.size = 0 :: rest) (ho : ops[0]? = some o) (hg : o.guard = none) (hop : o.op = .call { callee := .builtin .recover, args := #[], argTypes := at' }) (hd : ∀ d, o.dst = some d → d < N)
    (h : AGo P N (.inRegion ops rest :: k) ((Env.init args).put o.dst (recovers u).1) [] aw fun d ρ ds aw' => ds = [] ∧ match d with
      | .ret => ∃ v, ARes P fn N ρ aw' v ∧ Q (.returned v) (recovers u).2 aw'
      | .panic ch => Q (.panicked ch) (recovers u).2 aw') : ACallsD P f args u aw Q := by
  intro base w0 s args' w m0 hrel hv hm0 c₀ cs hu
  obtain ⟨henv, hsz⟩ := init_env hv hN
  let b : Frame := { (default : Frame) with fn := f, kind := .deferred }
  let a : Act := { tmps := args'.toArray ++ Array.replicate (fn.ntmps - args'.toArray.size) undef, defers := [] }
  have henter : Frame.enter P f args'.toArray .deferred = b.at a [.code c] := by
    simp [Frame.enter, Frame.at, hf, hb, b, a]
  rw [henter]
  have h1 := hsil.steps (P := P) b a (c₀ :: cs) w
  have h2 := step_region (P := P) (b := b) (a := a) (k := k) (cs := c₀ :: cs) (w := w) (ops := ops) (id := id)
  rw [hl] at h2
  have hw : Region.wanted o (yielded ops a.tmps) = true := by unfold Region.wanted; rw [hg]
  have hgo := stepG_op (P := P) (b := b) (k := k) (cs := c₀ :: cs) (w := w) (rest := rest) (a := a) ho hw
  have hrun : (execOp a.eval o).run P w = .ok .recover w := by
    simp [execOp, hop, resolve, invoke, builtin]
  have hfin : ∀ v, (b.at a (.inRegion ops (0 :: rest) :: k)).finish v = b.at (a.put o.dst v) (.inRegion ops rest :: k) := by
    intro v; rw [Frame.finish_at, ho]; rfl
  have hkind : (b.at a (.inRegion ops (0 :: rest) :: k)).kind = .deferred := rfl
  have htr := tryRecover_deferred hkind (c₀ :: cs)
  -- what it gives
  have hrec : ∃ v m1, VR s (recovers u).1 v ∧ MR s (recovers u).2 m1 ∧ (recoverD (c₀ :: cs)).getD (.nilIface, c₀ :: cs) = (v, { c₀ with mode := m1 } :: cs) := by
    have hc : ({ c₀ with mode := m0 } : Frame) = c₀ := by subst hu; rfl
    cases hm0 with
    | ret => exact ⟨.nilIface, _, .nilIface, .ret, by simp [recoverD, hu, hc]⟩
    | panic hcr =>
      cases hcr with
      | nil => exact ⟨.nilIface, _, .nilIface, .panic .nil, by simp [recoverD, hu, hc]⟩
      | cons hvv t =>
        rename_i v1 v2 r g l1 l2
        cases r with
        | true => exact ⟨.nilIface, _, .nilIface, .panic (.cons hvv t), by simp [recoverD, hu, hc]⟩
        | false =>
          cases g with
          | true => exact ⟨.nilIface, _, .nilIface, .panic (.cons hvv t), by simp [recoverD, hu, hc]⟩
          | false => exact ⟨v2, _, hvv, .panic (.cons hvv t), by simp [recoverD, hu]⟩
  obtain ⟨v, m1, hvr, hmr, hrd⟩ := hrec
  have h3 : step P (lone (b.at a (.inRegion ops (0 :: rest) :: k)) (c₀ :: cs) w) = .next (lone (b.at (a.put o.dst v) (.inRegion ops rest :: k)) ({ c₀ with mode := m1 } :: cs) w) := by
    refine step_lone_go ?_
    rw [hgo, ← hfin]
    simp only [Frame.at] at htr ⊢
    cases hx : recoverD (c₀ :: cs) with
    | none =>
      rw [hx] at hrd
      simp only [Option.getD_none, Prod.mk.injEq, List.cons.injEq, and_true] at hrd
      obtain ⟨rfl, hcc⟩ := hrd
      simp [stepG.apply, hrun, htr, hx, ← hcc]
    | some q =>
      rw [hx] at hrd
      simp only [Option.getD_some] at hrd
      subst hrd
      simp [stepG.apply, hrun, htr, hx]
  obtain ⟨m, t', a', w', hs, s', d, ρ', ds', aw', hle, hst, hm, hds, hr⟩ := h base w0 s (a.put o.dst v) w b ({ c₀ with mode := m1 } :: cs)
    ⟨hrel, put_env (by simp only [a, hn]; exact henv) (fun d hdd => by simp only [a, hn, hsz]; exact hd d hdd) hvr, by rw [put_size]; simp only [a, hn]; exact hsz, by rw [put_defers]; exact .nil⟩
  subst hds
  have hdef : a'.defers = [] := by
    have := hst.dfr
    generalize a'.defers = q at this
    cases this; rfl
  have hall := Steps.trans h1 (.head h2 (.head h3 hs))
  cases hm with
  | ret =>
    obtain ⟨v, hres, hq⟩ := hr
    obtain ⟨v', g1, g2⟩ := hres base w0 s' a'.tmps w' hst.rel hst.env hst.size
    exact ⟨.returned v', m1, w', _, ⟨s', .returned v, _, aw', hle, hst.rel, .returned g2, hmr.mono hle, hq⟩, hall, rfl, rfl, hdef, fn, hf, g1⟩
  | panic hcr =>
    exact ⟨.panicked _, m1, w', _, ⟨s', .panicked _, _, aw', hle, hst.rel, .panicked hcr, hmr.mono hle, hr⟩, hall, rfl, rfl, hdef, fn, hf⟩
end
end Go.Am
