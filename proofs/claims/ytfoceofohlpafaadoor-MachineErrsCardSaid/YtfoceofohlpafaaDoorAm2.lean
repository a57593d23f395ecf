/- Frames over the abstract memory: what a list of code items comes to; the rules for control, for regions, for calls. -/
import Derived.Test.YtfoceofohlpafaaDoorAm1
set_option linter.unusedSectionVars false
namespace Go.Am
open Go Go.RowKit
variable [SymE]

abbrev Env := Nat → Value
def Env.put (ρ : Env) (d : Option Tmp) (v : Value) : Env := match d with
  | none => ρ
  | some d => fun t => bif Nat.beq t d then v else ρ t
theorem Env.put_some (ρ : Env) (d : Tmp) (v : Value) : ρ.put (some d) v = fun t => if t = d then v else ρ t := by
  funext t
  simp only [Env.put]
  by_cases h : t = d
  · subst h; simp
  · have : Nat.beq t d = false := by
      cases hb : Nat.beq t d with
      | false => rfl
      | true => exact absurd (Nat.eq_of_beq_eq_true hb) h
    simp [this, h]
def Env.eval (ρ : Env) : Operand → Value
  | .tmp t => ρ t
  | .const v => v
  | .global g => .pointer (some ⟨g, 0, none⟩)
  | .func f => .func (.func f) #[] #[]
def Env.init (args : List Value) : Env := fun t => args.getD t undef
def okOpd (G : Nat) : Operand → Bool
  | .tmp _ | .func _ => true
  | .const v => plain v
  | .global g => decide (g < G)

inductive TR (s : Inj) : Target → Target → Prop
  | fn (fn : Fn) {c1 c2 : Array Value} (h : VRs s c1.toList c2.toList) : TR s (.fn fn c1) (.fn fn c2)
  | nil : TR s .nil .nil
inductive DRs (s : Inj) : List Deferred → List Deferred → Prop
  | nil : DRs s [] []
  | cons {d1 d2 : Deferred} {l1 l2 : List Deferred} (ht : TR s d1.target d2.target) (ha : VRs s d1.args.toList d2.args.toList) (t : DRs s l1 l2) : DRs s (d1 :: l1) (d2 :: l2)
inductive CRs (s : Inj) : List PanicEntry → List PanicEntry → Prop
  | nil : CRs s [] []
  | cons {v1 v2 : Value} {r g : Bool} {l1 l2 : List PanicEntry} (hv : VR s v1 v2) (t : CRs s l1 l2) : CRs s (⟨v1, r, g⟩ :: l1) (⟨v2, r, g⟩ :: l2)
theorem TR.mono {s t : Inj} (h : s.le t) {a b : Target} : TR s a b → TR t a b
  | .fn f k => .fn f (k.mono h)
  | .nil => .nil
theorem DRs.mono {s t : Inj} (h : s.le t) : ∀ {a b : List Deferred}, DRs s a b → DRs t a b
  | _, _, .nil => .nil
  | _, _, .cons x y z => .cons (x.mono h) (y.mono h) (z.mono h)
theorem CRs.mono {s t : Inj} (h : s.le t) : ∀ {a b : List PanicEntry}, CRs s a b → CRs t a b
  | _, _, .nil => .nil
  | _, _, .cons x z => .cons (x.mono h) (z.mono h)

structure St (G base : Nat) (w0 : World) (s : Inj) (ρ : Env) (N : Nat) (ds : List Deferred) (aw : AW) (a : Act) (w : World) : Prop where
  rel : Rel G base w0 s aw w
  env : ∀ t, VR s (ρ t) (a.tmps.getD t undef)
  size : a.tmps.size = N
  dfr : DRs s ds a.defers

section
variable {G base : Nat} {w0 : World} {s : Inj} {ρ : Env} {N : Nat} {ds : List Deferred} {aw : AW} {a : Act} {w : World}

theorem St.eval (h : St G base w0 s ρ N ds aw a w) {x : Operand} (hx : okOpd G x = true) : VR s (ρ.eval x) (a.eval x) := by
  cases x with
  | tmp t => exact h.env t
  | const v => exact VR.ofPlain hx
  | global g =>
    obtain ⟨e, h1, h2, h3⟩ := h.rel.glob g (by simpa [okOpd] using hx)
    have := VR.ptr (s := s) (b := g) (o := 0) h1
    simpa [Env.eval, Act.eval, h2, h3] using this
  | func f => exact .func _ .nil .nil

theorem VR.undef {s : Inj} : VR s Go.undef Go.undef := .tuple .nil

theorem put_env {s : Inj} {ρ : Env} {a : Act} (h : ∀ t, VR s (ρ t) (a.tmps.getD t undef)) {dst : Option Tmp} (hd : ∀ d, dst = some d → d < a.tmps.size)
    {v v' : Value} (hv : VR s v v') : ∀ t, VR s (ρ.put dst v t) ((a.put dst v').tmps.getD t undef) := by
  intro t
  cases dst with
  | none => exact h t
  | some d =>
    simp only [Env.put_some, Act.put]
    have hlt := hd d rfl
    by_cases htd : t = d
    · subst htd
      simpa [Array.getElem?_setIfInBounds, hlt] using hv
    · simp only [if_neg htd]
      have := h t
      simpa [Array.getElem?_setIfInBounds_ne (fun x => htd x.symm)] using this

theorem put_size (a : Act) (dst : Option Tmp) (v : Value) : (a.put dst v).tmps.size = a.tmps.size := by
  cases dst <;> simp [Act.put]
theorem put_defers (a : Act) (dst : Option Tmp) (v : Value) : (a.put dst v).defers = a.defers := by
  cases dst <;> simp [Act.put]

theorem St.put (h : St G base w0 s ρ N ds aw a w) {s' : Inj} (hle : s.le s') {aw' : AW} {w' : World} (hr : Rel G base w0 s' aw' w')
    {dst : Option Tmp} (hd : ∀ d, dst = some d → d < N) {v v' : Value} (hv : VR s' v v') : St G base w0 s' (ρ.put dst v) N ds aw' (a.put dst v') w' :=
  ⟨hr, put_env (fun t => (h.env t).mono hle) (by rw [h.size]; exact hd) hv, by rw [put_size]; exact h.size, by rw [put_defers]; exact h.dfr.mono hle⟩
theorem St.mono (h : St G base w0 s ρ N ds aw a w) {s' : Inj} (hle : s.le s') {aw' : AW} {w' : World} (hr : Rel G base w0 s' aw' w') :
    St G base w0 s' ρ N ds aw' a w' :=
  ⟨hr, fun t => (h.env t).mono hle, h.size, h.dfr.mono hle⟩
end

/-! ## a frame runs: its code items, till it leaves -/
inductive ADone where
  | ret
  | panic (chain : List PanicEntry)
inductive MR (s : Inj) : ADone → FrameMode → Prop
  | ret : MR s .ret .returning
  | panic {c1 c2 : List PanicEntry} (h : CRs s c1 c2) : MR s (.panic c1) (.panicking c2)

def AGo (P : Program) (N : Nat) (todo : List Item) (ρ : Env) (ds : List Deferred) (aw : AW) (R : ADone → Env → List Deferred → AW → Prop) : Prop :=
  ∀ (base : Nat) (w0 : World) (s : Inj) (a : Act) (w : World) (b : Frame) (cs : List Frame), St P.globals.size base w0 s ρ N ds aw a w →
    ∃ m todo' a' w', Steps P (lone (b.at a todo) cs w) (lone { b.at a' todo' with mode := m } cs w') ∧
      ∃ s' d ρ' ds' aw', s.le s' ∧ St P.globals.size base w0 s' ρ' N ds' aw' a' w' ∧ MR s' d m ∧ R d ρ' ds' aw'

section
variable {P : Program} {N : Nat} {k : List Item} {ρ : Env} {ds : List Deferred} {aw : AW} {R : ADone → Env → List Deferred → AW → Prop}

theorem AGo.head {todo todo' : List Item} (hs : ∀ (b : Frame) (a : Act) (cs : List Frame) (w : World), step P (lone (b.at a todo) cs w) = .next (lone (b.at a todo') cs w))
    (h : AGo P N todo' ρ ds aw R) : AGo P N todo ρ ds aw R := by
  intro base w0 s a w b cs hst
  obtain ⟨m, t', a', w', h1, h2⟩ := h base w0 s a w b cs hst
  exact ⟨m, t', a', w', .head (hs b a cs w) h1, h2⟩
theorem ago_seq {x y : Code} (h : AGo P N (.code x :: .code y :: k) ρ ds aw R) : AGo P N (.code (.seq x y) :: k) ρ ds aw R := .head (fun _ _ _ _ => step_seq) h
theorem ago_skip (h : AGo P N k ρ ds aw R) : AGo P N (.code .skip :: k) ρ ds aw R := .head (fun _ _ _ _ => step_skip) h
theorem ago_label {l : Nat} (h : AGo P N k ρ ds aw R) : AGo P N (.code (.label l) :: k) ρ ds aw R := .head (fun _ _ _ _ => step_label) h
theorem ago_inBlock {id : Nat} (h : AGo P N k ρ ds aw R) : AGo P N (.inBlock id :: k) ρ ds aw R := .head (fun _ _ _ _ => step_inBlock) h
theorem ago_block {id : Nat} {c : Code} (h : AGo P N (.code c :: .inBlock id :: k) ρ ds aw R) : AGo P N (.code (.block id c) :: k) ρ ds aw R := .head (fun _ _ _ _ => step_block) h
theorem ago_loop {c : Code} (h : AGo P N (.code c :: .inLoop c :: k) ρ ds aw R) : AGo P N (.code (.loop c) :: k) ρ ds aw R := .head (fun _ _ _ _ => step_loop) h
theorem ago_inLoop {c : Code} (h : AGo P N (.code c :: .inLoop c :: k) ρ ds aw R) : AGo P N (.inLoop c :: k) ρ ds aw R := .head (fun _ _ _ _ => step_inLoop) h
theorem step_scope' {P : Program} {b : Frame} {a : Act} {k : List Item} {cs : List Frame} {w : World} {c : Code} :
    step P (lone (b.at a (.code (.scope c) :: k)) cs w) = .next (lone (b.at a (.code c :: .inScope c :: k)) cs w) :=
  step_lone_go (by simp [stepG, stepG.exec, Frame.at])
theorem step_inScope' {P : Program} {b : Frame} {a : Act} {k : List Item} {cs : List Frame} {w : World} {c : Code} :
    step P (lone (b.at a (.inScope c :: k)) cs w) = .next (lone (b.at a k) cs w) :=
  step_lone_go (by simp [stepG, stepG.exec, Frame.at])
theorem ago_scope {c : Code} (h : AGo P N (.code c :: .inScope c :: k) ρ ds aw R) : AGo P N (.code (.scope c) :: k) ρ ds aw R := .head (fun _ _ _ _ => step_scope') h
theorem ago_inScope {c : Code} (h : AGo P N k ρ ds aw R) : AGo P N (.inScope c :: k) ρ ds aw R := .head (fun _ _ _ _ => step_inScope') h
theorem ago_exit {id : Nat} {k' : List Item} (hk : exitTo id k = some k') (h : AGo P N k' ρ ds aw R) : AGo P N (.code (.exit id) :: k) ρ ds aw R :=
  .head (fun _ _ _ _ => step_exit hk) h
theorem ago_goto {l : Nat} {k' : List Item} (hk : gotoIn l k = some k') (h : AGo P N k' ρ ds aw R) : AGo P N (.code (.goto l) :: k) ρ ds aw R :=
  .head (fun _ _ _ _ => step_goto hk) h
theorem ago_cond {c : Operand} {x y : Code} {t : Bool} (hok : okOpd P.globals.size c = true) (hc : ρ.eval c = .bool t)
    (hx : t = true → AGo P N (.code x :: k) ρ ds aw R) (hy : t = false → AGo P N (.code y :: k) ρ ds aw R) : AGo P N (.code (.cond c x y) :: k) ρ ds aw R := by
  intro base w0 s a w b cs hst
  have hv := hst.eval hok
  rw [hc] at hv
  have he : a.eval c = .bool t := by
    generalize a.eval c = u at hv
    cases hv; rfl
  cases t with
  | true =>
    obtain ⟨m, t', a', w', h1, h2⟩ := hx rfl base w0 s a w b cs hst
    exact ⟨m, t', a', w', .head (step_cond he) (by simpa using h1), h2⟩
  | false =>
    obtain ⟨m, t', a', w', h1, h2⟩ := hy rfl base w0 s a w b cs hst
    exact ⟨m, t', a', w', .head (step_cond he) (by simpa using h1), h2⟩
theorem ago_ret (h : R .ret ρ ds aw) : AGo P N (.code .ret :: k) ρ ds aw R := by
  intro base w0 s a w b cs hst
  exact ⟨.returning, _, a, w, .one step_ret, s, .ret, ρ, ds, aw, Inj.le_refl s, hst, .ret, h⟩
theorem ago_nil (h : R .ret ρ ds aw) : AGo P N [] ρ ds aw R := by
  intro base w0 s a w b cs hst
  exact ⟨.returning, _, a, w, .one step_end, s, .ret, ρ, ds, aw, Inj.le_refl s, hst, .ret, h⟩
end

/-! ## regions -/
def QQ (G base : Nat) (w0 : World) (s : Inj) (N : Nat) (Kn : Env → List Deferred → AW → Prop) (Kp : List PanicEntry → Env → List Deferred → AW → Prop) : Exit → Act → World → Prop
  | .normal, a, w => ∃ s' ρ ds aw, s.le s' ∧ St G base w0 s' ρ N ds aw a w ∧ Kn ρ ds aw
  | .panic ch, a, w => ∃ s' ρ ds aw ch', s.le s' ∧ St G base w0 s' ρ N ds aw a w ∧ CRs s' ch' ch ∧ Kp ch' ρ ds aw
  | _, _, _ => False
theorem QQ.mono {G base : Nat} {w0 : World} {s t : Inj} {N : Nat} {Kn : Env → List Deferred → AW → Prop} {Kp : List PanicEntry → Env → List Deferred → AW → Prop}
    (hst : s.le t) : ∀ {e : Exit} {a : Act} {w : World}, QQ G base w0 t N Kn Kp e a w → QQ G base w0 s N Kn Kp e a w
  | .normal, _, _, ⟨s', ρ, ds, aw, h, k⟩ => ⟨s', ρ, ds, aw, Inj.le_trans hst h, k⟩
  | .panic _, _, _, ⟨s', ρ, ds, aw, ch, h, k⟩ => ⟨s', ρ, ds, aw, ch, Inj.le_trans hst h, k⟩
  | .exit _, _, _, h => h.elim
  | .goto _, _, _, h => h.elim
  | .ret, _, _, h => h.elim
  | .outgrown, _, _, h => h.elim

def AOps (P : Program) (N : Nat) (ops : Array Oper) (l : List Nat) (ρ : Env) (ds : List Deferred) (aw : AW)
    (Kn : Env → List Deferred → AW → Prop) (Kp : List PanicEntry → Env → List Deferred → AW → Prop) : Prop :=
  ∀ (base : Nat) (w0 : World) (s : Inj) (a : Act) (w : World), St P.globals.size base w0 s ρ N ds aw a w → wpOps P ops (QQ P.globals.size base w0 s N Kn Kp) l a w

theorem wpOps_mono {P : Program} {ops : Array Oper} {Q Q' : Exit → Act → World → Prop} (h : ∀ e a w, Q e a w → Q' e a w) (hq : ∀ a w, ¬ Q .outgrown a w) :
    ∀ (l : List Nat) (a : Act) (w : World), wpOps P ops Q l a w → wpOps P ops Q' l a w := by
  intro l
  induction l with
  | nil => intro a w hh; exact h _ _ _ hh
  | cons i rest ih =>
    intro a w hh
    simp only [wpOps] at hh ⊢
    split
    · rename_i ho; simp only [ho] at hh; exact ih _ _ hh
    · rename_i o ho
      simp only [ho] at hh
      split
      · rename_i hw
        simp only [hw, if_true] at hh
        rcases hh with hh | ⟨_, a0, w0, hh⟩
        · left
          unfold Oper.wp at *
          generalize (execOp a.eval o).run P w = r at *
          cases r with
          | ok n w' =>
            cases n <;> simp only [Oper.upon] at hh ⊢ <;>
              first
                | exact ih _ _ hh
                | exact Calls.mono hh (fun e w'' he => by
                    cases e with
                    | returned v => exact ih _ _ he
                    | panicked ch => exact h _ _ _ he
                    | outgrown => exact absurd he (by rintro ⟨a, w, hx⟩; exact hq _ _ hx))
                | exact Rows.mono hh (fun _ _ he => ih _ _ he)
          | halt x w' => cases x <;> simp only [Oper.upon] at hh ⊢ <;> exact h _ _ _ hh
        · exact absurd hh (hq _ _)
      · rename_i hw
        simp only [hw] at hh
        exact ih _ _ hh
theorem QQ.not_outgrown {G base : Nat} {w0 : World} {s : Inj} {N : Nat} {Kn : Env → List Deferred → AW → Prop} {Kp : List PanicEntry → Env → List Deferred → AW → Prop} :
    ∀ a w, ¬ QQ G base w0 s N Kn Kp .outgrown a w := fun _ _ h => h

section
variable {P : Program} {N : Nat} {k : List Item} {ρ : Env} {ds : List Deferred} {aw : AW} {R : ADone → Env → List Deferred → AW → Prop}

theorem ago_of_wp {c : Code} (h : ∀ (base : Nat) (w0 : World) (s : Inj) (a : Act) (w : World), St P.globals.size base w0 s ρ N ds aw a w →
      c.wp P (QQ P.globals.size base w0 s N (fun ρ' ds' aw' => AGo P N k ρ' ds' aw' R) (fun ch ρ' ds' aw' => R (.panic ch) ρ' ds' aw')) a w) :
    AGo P N (.code c :: k) ρ ds aw R := by
  intro base w0 s a w b cs hst
  obtain ⟨e, a1, w1, hq, harr⟩ := h base w0 s a w hst b k cs
  cases e with
  | normal =>
    obtain ⟨s', ρ', ds', aw', hle, hst', hgo⟩ := hq
    obtain ⟨m, t', a', w', h1, s2, d, ρ2, ds2, aw2, h2, h3⟩ := hgo base w0 s' a1 w1 b cs hst'
    exact ⟨m, t', a', w', Steps.trans harr h1, s2, d, ρ2, ds2, aw2, Inj.le_trans hle h2, h3⟩
  | panic ch =>
    obtain ⟨s', ρ', ds', aw', ch', hle, hst', hc, hr⟩ := hq
    obtain ⟨todo, hs⟩ := harr
    exact ⟨.panicking ch, todo, a1, w1, hs, s', .panic ch', ρ', ds', aw', hle, hst', .panic hc, hr⟩
  | exit id => exact hq.elim
  | goto l => exact hq.elim
  | ret => exact hq.elim
  | outgrown => exact hq.elim

theorem ago_region {id : Nat} {ops : Array Oper} {n : Nat} (hn : ops.size = n)
    (h : AOps P N ops (List.range n) ρ ds aw (fun ρ' ds' aw' => AGo P N k ρ' ds' aw' R) (fun ch ρ' ds' aw' => R (.panic ch) ρ' ds' aw')) :
    AGo P N (.code (.region id ops false) :: k) ρ ds aw R :=
  ago_of_wp fun base w0 s a w hst => wp_region (by rw [hn]; exact h base w0 s a w hst)
end

section
variable {P : Program} {N : Nat} {ops : Array Oper} {i : Nat} {rest : List Nat} {ρ : Env} {ds : List Deferred} {aw aw' : AW}
  {Kn : Env → List Deferred → AW → Prop} {Kp : List PanicEntry → Env → List Deferred → AW → Prop} {o : Oper}

theorem aops_nil (h : Kn ρ ds aw) : AOps P N ops [] ρ ds aw Kn Kp :=
  fun _ _ s _ _ hst => ⟨s, ρ, ds, aw, Inj.le_refl s, hst, h⟩

/-- What an operation that gives a value gives. -/
def OpV (P : Program) (o : Oper) (ρ : Env) (aw : AW) (v : Value) (aw' : AW) : Prop :=
  ∀ (base : Nat) (w0 : World) (s : Inj) (f : Operand → Value) (w : World), Rel P.globals.size base w0 s aw w →
    (∀ x, okOpd P.globals.size x = true → VR s (ρ.eval x) (f x)) →
    ∃ n v' w' s', (execOp f o).run P w = .ok n w' ∧ (n = .value v' ∨ (n = .skip ∧ v' = undef)) ∧ s.le s' ∧ Rel P.globals.size base w0 s' aw' w' ∧ VR s' v v'

/-- The guard of an operation: it is wanted. -/
def wants (ops : Array Oper) (o : Oper) (ρ : Env) (b : Bool) : Prop :=
  match o.guard with
  | none => b = true
  | some (j, want) => ∃ t, (ops[j]?).bind (·.dst) = some t ∧ ((∃ u, ρ t = .bool u ∧ b = (u == want)) ∨ (ρ t = undef ∧ b = false))

theorem wants_spec {s : Inj} {a : Act} (henv : ∀ t, VR s (ρ t) (a.tmps.getD t undef)) {b : Bool} (h : wants ops o ρ b) (hsz : ∀ (j t : Nat), (ops[j]?).bind (fun (o : Oper) => o.dst) = some t → t < a.tmps.size) :
    Region.wanted o (yielded ops a.tmps) = b := by
  unfold wants at h
  unfold Region.wanted
  cases hg : o.guard with
  | none => simp only [hg] at h; simp [h]
  | some p =>
    obtain ⟨j, want⟩ := p
    simp only [hg] at h
    obtain ⟨t, h1, h⟩ := h
    have hlt := hsz j t h1
    have he := henv t
    have hx : a.tmps.getD t undef = a.tmps[t] := by simp [Array.getD, hlt]
    rw [hx] at he
    rcases h with ⟨u, h2, rfl⟩ | ⟨h2, rfl⟩
    · rw [h2] at he
      have : a.tmps[t]? = some (.bool u) := by
        rw [Array.getElem?_eq_getElem hlt]
        generalize a.tmps[t] = q at he
        cases he; rfl
      simp only [yielded, h1, Option.bind_some, this]
      cases u <;> cases want <;> rfl
    · rw [h2] at he
      have : ∃ ys, a.tmps[t]? = some (.tuple ys) := by
        rw [Array.getElem?_eq_getElem hlt]
        generalize a.tmps[t] = q at he
        cases he with | tuple _ => exact ⟨_, rfl⟩
      obtain ⟨ys, this⟩ := this
      simp only [yielded, h1, Option.bind_some, this]
      rfl

def dstsOk (N : Nat) (ops : Array Oper) : Bool := ops.toList.all fun o => match o.dst with | some d => decide (d < N) | none => true
theorem dstsOk_get (h : dstsOk N ops = true) {j t : Nat} (hj : (ops[j]?).bind (·.dst) = some t) : t < N := by
  cases ho : ops[j]? with
  | none => simp [ho] at hj
  | some o =>
    simp only [ho, Option.bind_some] at hj
    simp only [dstsOk, List.all_eq_true] at h
    have hmem : o ∈ ops.toList := by
      rw [Array.mem_toList_iff]
      exact Array.mem_of_getElem? ho
    have := h o hmem
    simp only [hj, decide_eq_true_eq] at this
    exact this

theorem aops_val {v : Value} (hN : dstsOk N ops = true) (ho : ops[i]? = some o) (hg : wants ops o ρ true) (hv : OpV P o ρ aw v aw')
    (hk : AOps P N ops rest (ρ.put o.dst v) ds aw' Kn Kp) : AOps P N ops (i :: rest) ρ ds aw Kn Kp := by
  intro base w0 s a w hst
  have hw := wants_spec hst.env hg (fun j t hj => by rw [hst.size]; exact dstsOk_get hN hj)
  simp only [wpOps, ho, hw, if_true]
  left
  obtain ⟨n, v', w', s', h1, h2, h3, h4, h5⟩ := hv base w0 s a.eval w hst.rel (fun x hx => hst.eval hx)
  have hd : ∀ d, o.dst = some d → d < N := fun d hd => dstsOk_get hN (j := i) (by simp [ho, hd])
  have := hk base w0 s' (a.put o.dst v') w' (hst.put h3 h4 hd h5)
  unfold Oper.wp
  rw [h1]
  rcases h2 with rfl | ⟨rfl, rfl⟩
  · exact wpOps_mono (fun e a w => QQ.mono h3) QQ.not_outgrown _ _ _ this
  · exact wpOps_mono (fun e a w => QQ.mono h3) QQ.not_outgrown _ _ _ this

theorem aops_skip (hN : dstsOk N ops = true) (ho : ops[i]? = some o) (hg : wants ops o ρ false)
    (hk : AOps P N ops rest (ρ.put o.dst undef) ds aw Kn Kp) : AOps P N ops (i :: rest) ρ ds aw Kn Kp := by
  intro base w0 s a w hst
  have hw := wants_spec hst.env hg (fun j t hj => by rw [hst.size]; exact dstsOk_get hN hj)
  have hd : ∀ d, o.dst = some d → d < N := fun d hd => dstsOk_get hN (j := i) (by simp [ho, hd])
  simp only [wpOps, ho, hw]
  exact hk base w0 s (a.put o.dst undef) w (hst.put (Inj.le_refl s) hst.rel hd VR.undef)

/-- An operation that panics. -/
def OpP (P : Program) (o : Oper) (ρ : Env) (aw : AW) (v : Value) : Prop :=
  ∀ (base : Nat) (w0 : World) (s : Inj) (f : Operand → Value) (w : World), Rel P.globals.size base w0 s aw w →
    (∀ x, okOpd P.globals.size x = true → VR s (ρ.eval x) (f x)) → ∃ v', (execOp f o).run P w = .halt (.panic v') w ∧ VR s v v'
theorem aops_panic {v : Value} (hN : dstsOk N ops = true) (ho : ops[i]? = some o) (hg : wants ops o ρ true) (hv : OpP P o ρ aw v)
    (hk : Kp [⟨v, false, false⟩] ρ ds aw) : AOps P N ops (i :: rest) ρ ds aw Kn Kp := by
  intro base w0 s a w hst
  have hw := wants_spec hst.env hg (fun j t hj => by rw [hst.size]; exact dstsOk_get hN hj)
  simp only [wpOps, ho, hw, if_true]
  left
  obtain ⟨v', h1, h2⟩ := hv base w0 s a.eval w hst.rel (fun x hx => hst.eval hx)
  unfold Oper.wp
  rw [h1]
  exact ⟨s, ρ, ds, aw, _, Inj.le_refl s, hst, .cons h2 .nil, hk⟩

/-! ## calls -/
inductive AEnd where
  | returned (v : Value)
  | panicked (chain : List PanicEntry)
inductive ER (s : Inj) : AEnd → Ending → Prop
  | returned {v v' : Value} (h : VR s v v') : ER s (.returned v) (.returned v')
  | panicked {c c' : List PanicEntry} (h : CRs s c c') : ER s (.panicked c) (.panicked c')
def EQ (G base : Nat) (w0 : World) (s : Inj) (Q : AEnd → AW → Prop) (e : Ending) (w' : World) : Prop :=
  ∃ s' ae aw', s.le s' ∧ Rel G base w0 s' aw' w' ∧ ER s' ae e ∧ Q ae aw'
def ACalls (P : Program) (f : FuncId) (args : List Value) (aw : AW) (Q : AEnd → AW → Prop) : Prop :=
  ∀ (base : Nat) (w0 : World) (s : Inj) (args' : List Value) (w : World), Rel P.globals.size base w0 s aw w → VRs s args args' →
    Calls P f args'.toArray w (EQ P.globals.size base w0 s Q)
theorem ACalls.mono {f : FuncId} {args : List Value} {Q Q' : AEnd → AW → Prop} (h : ACalls P f args aw Q) (hq : ∀ e w, Q e w → Q' e w) : ACalls P f args aw Q' :=
  fun base w0 s args' w hr hv => (h base w0 s args' w hr hv).mono fun _ _ ⟨s', ae, aw', h1, h2, h3, h4⟩ => ⟨s', ae, aw', h1, h2, h3, hq _ _ h4⟩

/-- An operation that calls a function. -/
def OpC (P : Program) (o : Oper) (ρ : Env) (fid : FuncId) (args : List Value) : Prop :=
  ∀ (s : Inj) (f : Operand → Value) (w : World), (∀ x, okOpd P.globals.size x = true → VR s (ρ.eval x) (f x)) →
    ∃ args', (execOp f o).run P w = .ok (.enter fid args'.toArray) w ∧ VRs s args args'
theorem aops_call {fid : FuncId} {args : List Value} (hN : dstsOk N ops = true) (ho : ops[i]? = some o) (hg : wants ops o ρ true) (hc : OpC P o ρ fid args)
    (h : ACalls P fid args aw fun
      | .returned v, aw' => AOps P N ops rest (ρ.put o.dst v) ds aw' Kn Kp
      | .panicked ch, aw' => Kp ch ρ ds aw') : AOps P N ops (i :: rest) ρ ds aw Kn Kp := by
  intro base w0 s a w hst
  have hw := wants_spec hst.env hg (fun j t hj => by rw [hst.size]; exact dstsOk_get hN hj)
  have hd : ∀ d, o.dst = some d → d < N := fun d hd => dstsOk_get hN (j := i) (by simp [ho, hd])
  simp only [wpOps, ho, hw, if_true]
  left
  obtain ⟨args', h1, h2⟩ := hc s a.eval w (fun x hx => hst.eval hx)
  unfold Oper.wp
  rw [h1]
  refine (h base w0 s args' w hst.rel h2).mono ?_
  rintro e w' ⟨s', ae, aw2, hle, hrel, her, hq⟩
  cases her with
  | returned hv =>
    exact wpOps_mono (fun e a w => QQ.mono hle) QQ.not_outgrown _ _ _ (hq base w0 s' _ w' (hst.put hle hrel hd hv))
  | panicked hv =>
    exact ⟨s', ρ, ds, aw2, _, hle, hst.mono hle hrel, hv, hq⟩

/-- An operation that defers a call. -/
def OpD (P : Program) (o : Oper) (ρ : Env) (d : Deferred) : Prop :=
  ∀ (s : Inj) (f : Operand → Value) (w : World), (∀ x, okOpd P.globals.size x = true → VR s (ρ.eval x) (f x)) →
    ∃ d', (execOp f o).run P w = .ok (.defer d') w ∧ TR s d.target d'.target ∧ VRs s d.args.toList d'.args.toList
theorem aops_defer {d : Deferred} (hN : dstsOk N ops = true) (ho : ops[i]? = some o) (hg : wants ops o ρ true) (hc : OpD P o ρ d)
    (hk : AOps P N ops rest (ρ.put o.dst undef) (d :: ds) aw Kn Kp) : AOps P N ops (i :: rest) ρ ds aw Kn Kp := by
  intro base w0 s a w hst
  have hw := wants_spec hst.env hg (fun j t hj => by rw [hst.size]; exact dstsOk_get hN hj)
  have hd : ∀ d, o.dst = some d → d < N := fun d hd => dstsOk_get hN (j := i) (by simp [ho, hd])
  simp only [wpOps, ho, hw, if_true]
  left
  obtain ⟨d', h1, h2, h3⟩ := hc s a.eval w (fun x hx => hst.eval hx)
  unfold Oper.wp
  rw [h1]
  have hst2 := hst.put (Inj.le_refl s) hst.rel hd (VR.undef (s := s))
  have hst3 : St P.globals.size base w0 s (ρ.put o.dst undef) N (d :: ds) aw (({ a with defers := d' :: a.defers } : Act).put o.dst undef) w := by
    rw [← Act.put_defers]
    exact ⟨hst2.rel, hst2.env, hst2.size, .cons h2 h3 hst2.dfr⟩
  exact hk base w0 s _ w hst3
end

/-! ## a function, from its body -/
def ARes (P : Program) (fn : Func) (N : Nat) (ρ : Env) (aw : AW) (v : Value) : Prop :=
  ∀ (base : Nat) (w0 : World) (s : Inj) (tmps : Array Value) (w : World), Rel P.globals.size base w0 s aw w → (∀ t, VR s (ρ t) (tmps.getD t undef)) → tmps.size = N →
    ∃ v', (results fn tmps).run P w = .ok v' w ∧ VR s v v'

theorem init_env {s : Inj} {args args' : List Value} {N : Nat} (h : VRs s args args') (hN : args.length ≤ N) :
    (∀ t, VR s (Env.init args t) ((args'.toArray ++ Array.replicate (N - args'.toArray.size) undef).getD t undef)) ∧
      (args'.toArray ++ Array.replicate (N - args'.toArray.size) undef).size = N := by
  have hl := h.length
  refine ⟨fun t => ?_, by simp; omega⟩
  unfold Env.init
  by_cases ht : t < args.length
  · obtain ⟨v', h1, h2⟩ := h.get (List.getElem?_eq_getElem ht)
    have ht' : t < args'.length := by omega
    have e1 : args.getD t undef = args[t] := by simp [List.getD, ht]
    have e2 : (args'.toArray ++ Array.replicate (N - args'.toArray.size) undef).getD t undef = v' := by
      simp only [Array.getD_eq_getD_getElem?]
      rw [Array.getElem?_append_left (by simpa using ht')]
      simp [h1]
    rw [e1, e2]; exact h2
  · have e1 : args.getD t undef = undef := by simp [List.getD, List.getElem?_eq_none (Nat.le_of_not_lt ht)]
    have e2 : (args'.toArray ++ Array.replicate (N - args'.toArray.size) undef).getD t undef = undef := by
      simp only [Array.getD_eq_getD_getElem?]
      rw [Array.getElem?_append_right (by simp; omega)]
      rw [Array.getElem?_replicate]
      split <;> rfl
    rw [e1, e2]; exact VR.undef

theorem acalls_of_ago {P : Program} {f : FuncId} {fn : Func} {c : Code} {N : Nat} {args : List Value} {aw : AW} {Q : AEnd → AW → Prop}
    (hf : P.funcs[f]? = some fn) (hb : fn.body = some c) (hn : fn.ntmps = N) (hN : args.length ≤ N)
    (h : AGo P N [.code c] (Env.init args) [] aw fun d ρ ds aw' => ds = [] ∧ match d with
      | .ret => ∃ v, ARes P fn N ρ aw' v ∧ Q (.returned v) aw'
      | .panic ch => Q (.panicked ch) aw') : ACalls P f args aw Q := by
  intro base w0 s args' w hrel hv cs
  obtain ⟨henv, hsz⟩ := init_env hv hN
  let b : Frame := { (default : Frame) with fn := f, kind := .normal }
  let a : Act := { tmps := args'.toArray ++ Array.replicate (fn.ntmps - args'.toArray.size) undef, defers := [] }
  have henter : Frame.enter P f args'.toArray .normal = b.at a [.code c] := by
    simp [Frame.enter, Frame.at, hf, hb, b, a]
  rw [henter]
  obtain ⟨m, t', a', w', hs, s', d, ρ', ds', aw', hle, hst, hm, hds, hr⟩ := h base w0 s a w b cs
    ⟨hrel, by simp only [a, hn]; exact henv, by simp only [a, hn]; exact hsz, .nil⟩
  subst hds
  have hdef : a'.defers = [] := by
    have := hst.dfr
    generalize a'.defers = q at this
    cases this; rfl
  cases hm with
  | ret =>
    obtain ⟨v, hres, hq⟩ := hr
    obtain ⟨v', h1, h2⟩ := hres base w0 s' a'.tmps w' hst.rel hst.env hst.size
    exact ⟨.returned v', w', _, ⟨s', .returned v, aw', hle, hst.rel, .returned h2, hq⟩, hs, rfl, rfl, hdef, rfl, fn, hf, h1⟩
  | panic hc =>
    exact ⟨.panicked _, w', _, ⟨s', .panicked _, aw', hle, hst.rel, .panicked hc, hr⟩, hs, rfl, rfl, hdef, fn, hf⟩
end Go.Am
