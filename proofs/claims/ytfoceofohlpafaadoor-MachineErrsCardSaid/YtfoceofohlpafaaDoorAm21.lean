/- More words: cap, a slice of nothing, zeros appended, deferred calls, recover, a type's test. -/
import Derived.Test.YtfoceofohlpafaaDoorAm20
import Derived.Test.YtfoceofohlpafaaDoorAm12
set_option linter.unusedSimpArgs false
set_option linter.unusedVariables false
set_option linter.unusedSectionVars false
namespace Go.Am
open Go Go.RowKit
variable [SymE]

/-- a place; what stands there -/
def ptr (p : Value) (K : Nat → Nat → Prop) : Prop := ∃ b i, p = .pointer (some ⟨b, i, none⟩) ∧ K b i
def gI (k : IntKind) (aw : AW) (b i : Nat) (K : Int → Prop) : Prop := ∃ n, aw.get b i = some (.int k n) ∧ K n
def gB (aw : AW) (b i : Nat) (K : Bool → Prop) : Prop := ∃ n, aw.get b i = some (.bool n) ∧ K n
def gS (aw : AW) (b i : Nat) (K : ByteArray → Prop) : Prop := ∃ n, aw.get b i = some (.string n) ∧ K n
def gV (aw : AW) (b i : Nat) (K : Value → Prop) : Prop := ∃ n, aw.get b i = some n ∧ K n
def scap (v : Value) (K : Int → Prop) : Prop := ∃ q l c n, v = .slice q l c ∧ c < UNK ∧ n = (c : Int) ∧ K n
/-- zeros are appended, where there is no room -/
def appZ (aw : AW) (el size bytes : Nat) (z : List Value) (sv : Value) (m : Int) (K : Value → AW → Prop) : Prop :=
  ∃ q l c n os v aw', sv = .slice q l c ∧ m = ((n : Nat) : Int) ∧ 0 < n ∧ Src aw size sv l os ∧ c < UNK ∧ c < l + n ∧ (2 * (l + n) + 768) * bytes ≤ 2 ^ 48 ∧
    v = .slice (some ⟨aw.next, 0, none⟩) (l + n) UNK ∧ aw' = aw.alloc (os ++ zeros z n) el size ∧ K v aw'
/-- a deferred call, and what the frame comes to behind it -/
def LeaveK (Kr : AW → Prop) (E : List PanicEntry → AW → Prop) : ADone → AW → Prop
  | .ret, aw => Kr aw
  | .panic ch, aw => E ch aw
def DefP (P : Program) (g : FuncId) (args : List Value) (u : ADone) (aw : AW) (K : ADone → AW → Prop) (E : List PanicEntry → ADone → AW → Prop) : Prop :=
  ACallsD P g args u aw fun
    | .returned _, u', aw' => K u' aw'
    | .panicked ch, u', aw' => E ch u' aw'
def DefK (P : Program) (g : FuncId) (args : List Value) (u : ADone) (aw : AW) (Kr : AW → Prop) (E : List PanicEntry → AW → Prop) : Prop :=
  DefP P g args u aw (fun u' aw' => LeaveK Kr E (asettle u') aw') (fun ch u' aw' => LeaveK Kr E (araised u' ch) aw')

section
variable {P : Program} {N : Nat} {ops : Array Oper} {i : Nat} {rest : List Nat} {ρ : Env} {ds : List Deferred} {aw aw' : AW}
  {Kn : Env → List Deferred → AW → Prop} {Kp : List PanicEntry → Env → List Deferred → AW → Prop} {o : Oper}
  {x y z : Operand} {t el sT xT xt yt : TypeId} {d dx : TypeDesc} {v xv p : Value} {k : IntKind} {at' : Array TypeId} {size bytes : Nat}

theorem ov_cap {q : Option Addr} {l c : Nat} {m : Int} {T el : TypeId} (hop : o.op = .call { callee := .builtin .cap, args := #[x], argTypes := at' }) (hat : at'[0]? = some T) (hx : okOpd P.globals.size x = true)
    (hu : P.underlying T = some (.slice el)) (h1 : ρ.eval x = p) (hp : p = .slice q l c) (hc : c < UNK) (hm : m = (c : Int)) : OpV P o ρ aw (.int .i64 m) aw := by
  subst hm
  rw [hp] at h1
  exact opv_pure fun s f w hf => by
    have e1 := hf x hx; rw [h1] at e1
    have : ∃ q', f x = .slice q' l c := by
      generalize f x = u at e1
      cases e1 with
      | nilslice => exact ⟨_, rfl⟩
      | slice hl hcc h => rw [hcc hc]; exact ⟨_, rfl⟩
    obtain ⟨q', hq⟩ := this
    refine ⟨.int .i64 c, ?_, .int _ _⟩
    simp [execOp, hop, resolve, invoke, builtin, Builtin.cap_, hq, hat, run_underlying hu, goInt]
theorem ov_bs0 (hop : o.op = .buildSlice t 0 #[]) (hu : P.underlying t = some (.slice el)) (hsz : (P.info? el).map (·.size) = some size) (hv : v = .slice (some ⟨aw.next, 0, none⟩) 0 0) (ha : aw' = aw.alloc [] el size) : OpV P o ρ aw v aw' := by
  subst hv; subst ha
  intro base w0 s f w hrel hf
  obtain ⟨s', k1, k2, k3⟩ := hrel.alloc (cells := []) (cs := #[]) el size (by simp) (by simp) (fun i v hi => by simp at hi) (0, 0) (by simp)
  refine ⟨_, .slice (some ⟨w.heap.size, 0, none⟩) 0 0, _, s', ?_, .inl rfl, k1, k3, ?_⟩
  · simp only [execOp, hop, Instr.buildSlice, Sem.run_bind, run_underlying hu, run_sizeOf' hsz, Result.andThen_ok]
    rw [if_neg (by omega), if_pos (by omega)]
    simp only [Sem.run_pure, Result.andThen_ok, Sem.run_bind, List.map_toArray, List.map_nil, Instr.fill, Nat.zero_mul]
    simp [Instr.fill, run_newRow]
    congr 2
    apply Array.ext'; simp
  · exact .slice (Nat.le_refl _) (fun _ => rfl) fun h => absurd h (by omega)
theorem ov_appZ {zz : Value} {zl : List Value} {q : Option Addr} {l c n : Nat} {m : Int} {os : List Value} {k kk : IntKind} (hop : o.op = .call { callee := .builtin .append, args := #[x, y], argTypes := at' }) (hat : at' = #[sT, xT]) (hx : okOpd P.globals.size x = true) (hy : okOpd P.globals.size y = true)
    (hu : P.underlying sT = some (.slice el)) (hsz : (P.info? el).map (·.size) = some size) (hby : (P.info? el).map (·.bytes) = some bytes) (hxu : P.underlying xT = some (.int k))
    (hz0 : (P.info? el).bind (·.zero) = some zz) (hzl : zz.cells.toList = zl) (hzs : zz.cells.size = size) (hp : plains zz.cells.toList = true) (hb0 : 0 < bytes) (hsz0 : 0 < size)
    (h1 : ρ.eval x = p) (h2 : ρ.eval y = .int kk m) (hpv : p = .slice q l c) (hm : m = ((n : Nat) : Int)) (hn0 : 0 < n) (hos : Src aw size p l os) (hc : c < UNK) (hfit : c < l + n)
    (hb : (2 * (l + n) + 768) * bytes ≤ 2 ^ 48) (hv : v = .slice (some ⟨aw.next, 0, none⟩) (l + n) UNK) (ha : aw' = aw.alloc (os ++ zeros zl n) el size) : OpV P o ρ aw v aw' := by
  subst hv; subst ha; subst hzl; subst hm
  exact opv_appendZ hop hat hx hy hu hsz hby hxu hz0 hzs hp hb0 hn0 h1 h2 hos ⟨q, hpv⟩ hc hfit hsz0 hb
/-! a type's test -/
theorem ov_tyY {a : TypeId} {u : Value} (hop : o.op = .typeAssert x xt a true) (hx : okOpd P.globals.size x = true) (hu : P.underlying a = some d) (hd : isIface d = false) (h1 : ρ.eval x = xv) (hxv : xv = .iface a u) :
    OpV P o ρ aw (.tuple #[u, .bool true]) aw := opv_assertYes (ok := true) hop hx hu hd (h1.trans hxv)
theorem ov_tyN {a : TypeId} {zz : Value} (hop : o.op = .typeAssert x xt a true) (hx : okOpd P.globals.size x = true) (hu : P.underlying a = some d) (hd : isIface d = false) (hz : (P.info? a).bind (·.zero) = some zz) (hp : plain zz = true)
    (h1 : ρ.eval x = xv) (hxv : (∃ q v, xv = .iface q v ∧ q ≠ a) ∨ xv = .nilIface) : OpV P o ρ aw (.tuple #[zz, .bool false]) aw := by
  rcases hxv with ⟨q, v, h, hne⟩ | h
  · exact opv_assertNo hop hx hu hd hz hp (h1.trans h) hne
  · exact opv_assertNil hop hx hu hd hz hp (h1.trans h)
theorem ov_tyA {a : TypeId} {u : Value} (hop : o.op = .typeAssert x xt a false) (hx : okOpd P.globals.size x = true) (hu : P.underlying a = some d) (hd : isIface d = false) (h1 : ρ.eval x = xv) (hxv : xv = .iface a u) :
    OpV P o ρ aw u aw := opv_assertYes (ok := false) hop hx hu hd (h1.trans hxv)
/-! deferred calls -/
theorem lk_defer {g : FuncId} {xs : Array Operand} {fa ca : Array Value} {args : List Value} {zv : Value} {dt : Option Tmp} (hN : dstsOk N ops = true) (ho : ops[i]? = some o) (hd : o.dst = dt) (hg : wants ops o ρ true)
    (hop : o.op = .defer { callee := .value z, args := xs, argTypes := at' }) (hz : okOpd P.globals.size z = true) (hok : xs.toList.all (okOpd P.globals.size) = true) (h1 : ρ.eval z = zv) (hzv : zv = .func (.func g) fa ca) (ha : xs.toList.map ρ.eval = args)
    (hk : AOps P N ops rest (ρ.put dt undef) (⟨.fn (.func g) ca, fa ++ args.toArray⟩ :: ds) aw Kn Kp) : AOps P N ops (i :: rest) ρ ds aw Kn Kp := by
  refine aops_defer hN ho hg (opd_dyn (fa := fa) (ca := ca) hop hz hok (h1.trans hzv)) ?_
  subst hd
  have e : xs.map ρ.eval = args.toArray := by rw [← ha]; apply Array.ext'; simp
  rw [e]; exact hk
theorem aleaves_one {α : Type} {fn : Func} {sh : α → Value} {Q : α → AW → Prop} {E : List PanicEntry → AW → Prop} {g : FuncId} {fa ca : Array Value} {l : List Value} {u : ADone} {Kr : AW → Prop} (hf : IsFn P g) (hl : fa.toList ++ ca.toList = l)
    (H : DefK P g l u aw Kr E) (hr : ∀ aw, Kr aw → ∃ r, ARes P fn N ρ aw (sh r) ∧ Q r aw) : ALeaves P fn N ρ (Ends sh Q E) [⟨.fn (.func g) ca, fa⟩] u aw := by
  refine ⟨g, ca, rfl, hf, ?_⟩
  simp only
  rw [hl]
  have key : ∀ u aw, LeaveK Kr E u aw → ALeaves P fn N ρ (Ends sh Q E) [] u aw := by
    intro u aw h
    cases u with
    | ret =>
      obtain ⟨r, h1, h2⟩ := hr aw h
      exact ⟨_, h1, r, rfl, h2⟩
    | panic ch => exact h
  refine ACallsD.mono H fun e u' aw' h => ?_
  cases e with
  | returned v => exact key _ _ h
  | panicked ch => exact key _ _ h
/-- how a frame with deferred calls ends -/
def RD {α : Type} (P : Program) (fn : Func) (N : Nat) (sh : α → Value) (Q : α → AW → Prop) (E : List PanicEntry → AW → Prop) : ADone → Env → List Deferred → AW → Prop := fun d ρ ds aw => ALeaves P fn N ρ (Ends sh Q E) ds d aw
theorem ago_retD {c : Code} {k : List Item} {R : ADone → Env → List Deferred → AW → Prop} (e : c = .ret) (h : R .ret ρ ds aw) : AGo P N (.code c :: k) ρ ds aw R := by subst e; exact ago_ret h
theorem ago_nilD {R : ADone → Env → List Deferred → AW → Prop} (h : R .ret ρ ds aw) : AGo P N [] ρ ds aw R := ago_nil h
theorem callP_of_d {α : Type} {f : FuncId} {fn : Func} {c : Code} {args : List Value} {sh : α → Value} {Q : α → AW → Prop} {E : List PanicEntry → AW → Prop} (hf : P.funcs[f]? = some fn) (hb : fn.body = some c) (hn : fn.ntmps = N) (hN : args.length ≤ N)
    (h : AGo P N [.code c] (Env.init args) [] aw (RD P fn N sh Q E)) : CallP P f args aw sh Q E := acalls_of_ago_d hf hb hn hN h
theorem defP_of {α : Type} {f : FuncId} {fn : Func} {c : Code} {args : List Value} {u : ADone} {sh : α → Value} {K : ADone → AW → Prop} {E : List PanicEntry → ADone → AW → Prop} {id : Nat} {ops : Array Oper} {o : Oper} {k : List Item} {rest : List Nat} {at' : Array TypeId} {dt : Option Tmp}
    (hf : P.funcs[f]? = some fn) (hb : fn.body = some c) (hn : fn.ntmps = N) (hN : args.length ≤ N) (hsil : Silent [.code c] (.code (.region id ops false) :: k))
    (hl : List.range ops.size = 0 :: rest) (ho : ops[0]? = some o) (hg : o.guard = none) (hop : o.op = .call { callee := .builtin .recover, args := #[], argTypes := at' }) (hdt : o.dst = dt) (hd : ∀ d, dt = some d → d < N)
    (h : AGo P N (.inRegion ops rest :: k) ((Env.init args).put dt (recovers u).1) [] aw (RR P fn N sh (fun _ aw => K (recovers u).2 aw) (fun ch aw => E ch (recovers u).2 aw))) : DefP P f args u aw K E := by
  subst hdt
  refine acallsD_recover hf hb hn hN hsil hl ho hg hop hd ?_
  intro base w0 s a w b cs hst
  obtain ⟨m, t', a', w', h1, s', d, ρ', ds', aw', h2, h3, h4, h5⟩ := h base w0 s a w b cs hst
  refine ⟨m, t', a', w', h1, s', d, ρ', ds', aw', h2, h3, h4, h5.1, ?_⟩
  cases d with
  | ret =>
    obtain ⟨v, g1, r, g2, g3⟩ := h5.2
    exact ⟨v, g1, g3⟩
  | panic ch => exact h5.2
end
end Go.Am
