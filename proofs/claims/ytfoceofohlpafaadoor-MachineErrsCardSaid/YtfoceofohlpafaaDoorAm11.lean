/- Equality of structs, cell by cell; and that a function can be called. -/
import Derived.Test.YtfoceofohlpafaaDoorAm10
import Derived.Laws.StructEq
set_option linter.unusedSimpArgs false
set_option linter.unusedVariables false
set_option linter.unusedSectionVars false
namespace Go.Am
open Go Go.RowKit
variable [SymE]

theorem isFn_of {P : Program} {g : FuncId} {fn : Func} (h : P.funcs[g]? = some fn) (h2 : (fn.name == "runtime.NumGoroutine") = false) (h3 : fn.body.isSome = true) : IsFn P g := by
  obtain ⟨c, hc⟩ := Option.isSome_iff_exists.1 h3
  exact ⟨fn, c, h, h2, hc⟩

theorem tf {p : Prop} (h : true = false) : p := absurd h (by decide)
theorem ft {p : Prop} (h : false = true) : p := absurd h (by decide)
/-! parts of a function's code -/
def cl : Code → Code
  | .seq a _ => a
  | .cond _ a _ => a
  | .block _ c => c
  | .loop c => c
  | .scope c => c
  | c => c
def cr : Code → Code
  | .seq _ b => b
  | .cond _ _ b => b
  | c => c
def regOps : Code → Array Oper
  | .region _ ops _ => ops
  | _ => #[]
def bodyOf (fn : Func) : Code := fn.body.getD .skip
section
variable {P : Program} {N : Nat} {k : List Item} {ρ : Env} {ds : List Deferred} {aw : AW} {R : ADone → Env → List Deferred → AW → Prop} {c x y : Code}
theorem ago_seqE (e : c = .seq x y) (h : AGo P N (.code x :: .code y :: k) ρ ds aw R) : AGo P N (.code c :: k) ρ ds aw R := e ▸ ago_seq h
theorem ago_skipE (e : c = .skip) (h : AGo P N k ρ ds aw R) : AGo P N (.code c :: k) ρ ds aw R := e ▸ ago_skip h
theorem ago_labelE {l : Nat} (e : c = .label l) (h : AGo P N k ρ ds aw R) : AGo P N (.code c :: k) ρ ds aw R := e ▸ ago_label h
theorem ago_blockE {id : Nat} (e : c = .block id x) (h : AGo P N (.code x :: .inBlock id :: k) ρ ds aw R) : AGo P N (.code c :: k) ρ ds aw R := e ▸ ago_block h
theorem ago_loopE (e : c = .loop x) (h : AGo P N (.code x :: .inLoop x :: k) ρ ds aw R) : AGo P N (.code c :: k) ρ ds aw R := e ▸ ago_loop h
theorem ago_scopeE (e : c = .scope x) (h : AGo P N (.code x :: .inScope x :: k) ρ ds aw R) : AGo P N (.code c :: k) ρ ds aw R := e ▸ ago_scope h
theorem ago_exitE {id : Nat} {k' : List Item} (e : c = .exit id) (hk : exitTo id k = some k') (h : AGo P N k' ρ ds aw R) : AGo P N (.code c :: k) ρ ds aw R := e ▸ ago_exit hk h
theorem ago_gotoE {l : Nat} {k' : List Item} (e : c = .goto l) (hk : gotoIn l k = some k') (h : AGo P N k' ρ ds aw R) : AGo P N (.code c :: k) ρ ds aw R := e ▸ ago_goto hk h
theorem ago_condE {z : Operand} {t : Bool} (e : c = .cond z x y) (hok : okOpd P.globals.size z = true) (hc : ρ.eval z = .bool t)
    (hx : t = true → AGo P N (.code x :: k) ρ ds aw R) (hy : t = false → AGo P N (.code y :: k) ρ ds aw R) : AGo P N (.code c :: k) ρ ds aw R := e ▸ ago_cond hok hc hx hy
theorem ago_regE {id : Nat} {ops : Array Oper} {l : List Nat} (e : c = .region id ops false) (hl : List.range ops.size = l)
    (h : AOps P N ops l ρ ds aw (fun ρ' ds' aw' => AGo P N k ρ' ds' aw' R) (fun ch ρ' ds' aw' => R (.panic ch) ρ' ds' aw')) : AGo P N (.code c :: k) ρ ds aw R := e ▸ ago_reg hl h
/-- the head's operations with what they give -/
def putV (ops : Array Oper) : Env → List (Nat × Value) → Env
  | ρ, [] => ρ
  | ρ, (i, v) :: r => putV ops (ρ.put (dstOf ops i) v) r
def valOf (hv : List (Nat × Value)) (i : Nat) : Value := ((hv.find? fun p => p.1 == i).map (·.2)).getD undef
theorem valOf_mem {hv : List (Nat × Value)} (hnd : (hv.map (·.1)).Nodup) : ∀ {i : Nat} {v : Value}, (i, v) ∈ hv → valOf hv i = v := by
  intro i v hm
  unfold valOf
  induction hv with
  | nil => simp at hm
  | cons p r ih =>
    simp only [List.map_cons, List.nodup_cons] at hnd
    rcases List.mem_cons.1 hm with rfl | hm
    · simp
    · have hne : ¬ p.1 = i := by
        rintro rfl
        exact hnd.1 (List.mem_map.2 ⟨_, hm, rfl⟩)
      simp only [List.find?_cons]
      rw [show (p.1 == i) = false by simpa using hne]
      exact ih hnd.2 hm
theorem putAll_putV {ops : Array Oper} {val : Nat → Value} : ∀ {l : List (Nat × Value)} (ρ : Env), (∀ p ∈ l, val p.1 = p.2) → putAll ops val ρ (l.map (·.1)) = putV ops ρ l
  | [], ρ, _ => rfl
  | p :: l, ρ, h => by
    simp only [List.map_cons, putAll, putV, h p (by simp)]
    exact putAll_putV _ fun q hq => h q (by simp [hq])
theorem pv_cons {ops : Array Oper} {i d : Nat} {v : Value} {r : List (Nat × Value)} {ρm : Env} (h1 : dstOf ops i = some d) (t : putV ops (ρ.put (some d) v) r = ρm) : putV ops ρ ((i, v) :: r) = ρm := by
  simp only [putV, h1]; exact t
theorem pv_nil {ops : Array Oper} (ρ : Env) : putV ops ρ [] = ρ := rfl
def HeadAllV (P : Program) (ops : Array Oper) (ρm : Env) (aw : AW) : List (Nat × Value) → Prop
  | [] => True
  | (i, v) :: r => (∀ o, ops[i]? = some o → HeadOp P ops o ρm aw v) ∧ HeadAllV P ops ρm aw r
theorem headAllV_get {ops : Array Oper} {ρm : Env} : ∀ {l : List (Nat × Value)}, HeadAllV P ops ρm aw l → ∀ p ∈ l, ∀ o, ops[p.1]? = some o → HeadOp P ops o ρm aw p.2
  | [], _, p, hp, _, _ => by simp at hp
  | (i, v) :: r, h, p, hp, o, ho => by
    rcases List.mem_cons.1 hp with rfl | hp
    · exact h.1 o ho
    · exact headAllV_get h.2 p hp o ho
/-- the tail, whichever of those that float are still to come -/
def TailAllV (P : Program) (N : Nat) (ops : Array Oper) (hs : List Nat) (hv : List (Nat × Value)) (ρ : Env) (ds : List Deferred) (aw : AW) (Kn : Env → List Deferred → AW → Prop) (Kp : List PanicEntry → Env → List Deferred → AW → Prop) : List (List Nat) → Prop
  | [] => True
  | F :: r => TailAny P N ops Kn Kp (left (maskOf ops.size hs F)) (maskOf ops.size hs F) (putV ops ρ (hv.filter fun p => !F.contains p.1)) ds aw ∧ TailAllV P N ops hs hv ρ ds aw Kn Kp r
theorem ago_drawE {id : Nat} {ops : Array Oper} {hs fl : List Nat} {hv : List (Nat × Value)} {ρm : Env} (e : c = .region id ops true) (hm : P.follows .mixedOrders = true) (hN : dstsOk N ops = true) (hok : drawOk ops hs fl = true) (hnd : hs.Nodup)
    (hh : hv.map (·.1) = hs) (hρ : putV ops ρ hv = ρm) (hop : HeadAllV P ops ρm aw hv)
    (hk : TailAllV P N ops hs hv ρ ds aw (fun ρ' ds' aw' => AGo P N k ρ' ds' aw' R) (fun ch ρ' ds' aw' => R (.panic ch) ρ' ds' aw') (subs fl)) : AGo P N (.code c :: k) ρ ds aw R := by
  subst e; subst hρ
  have hnd' : (hv.map (·.1)).Nodup := by rw [hh]; exact hnd
  have hall : ∀ p ∈ hv, valOf hv p.1 = p.2 := fun p hp => valOf_mem hnd' hp
  refine ago_draw (val := valOf hv) hm hN hok hnd ?_ ?_
  · intro i o hi ho
    rw [← hh] at hi
    obtain ⟨p, hp, rfl⟩ := List.mem_map.1 hi
    rw [← hh, putAll_putV ρ hall, hall p hp]
    exact headAllV_get hop p hp o ho
  · have key : ∀ l : List (List Nat), TailAllV P N ops hs hv ρ ds aw (fun ρ' ds' aw' => AGo P N k ρ' ds' aw' R) (fun ch ρ' ds' aw' => R (.panic ch) ρ' ds' aw') l →
        TailAll P N ops hs (valOf hv) ρ ds aw (fun ρ' ds' aw' => AGo P N k ρ' ds' aw' R) (fun ch ρ' ds' aw' => R (.panic ch) ρ' ds' aw') l := by
      intro l
      induction l with
      | nil => intro _; trivial
      | cons F r ih =>
        intro h
        refine ⟨?_, ih h.2⟩
        have e1 : (hs.filter fun i => !F.contains i) = (hv.filter fun p => !F.contains p.1).map (·.1) := by
          rw [← hh, List.filter_map]; rfl
        rw [e1, putAll_putV ρ fun p hp => hall p (List.mem_filter.1 hp).1]
        exact h.1
    exact key _ hk
theorem lmem {l : List Nat} {t : Nat} (h : l.contains t = true) : t ∈ l := by simpa using h
section
variable {ops : Array Oper} {o : Oper} {i : Nat} {ρm : Env} {v : Value}
theorem hd_v (ho : ops[i]? = some o) (h : ∀ ρ' : Env, (∀ t ∈ looks ops o, ρ' t = ρm t) → wants ops o ρ' true ∧ OpV P o ρ' aw v aw) : ∀ o', ops[i]? = some o' → HeadOp P ops o' ρm aw v :=
  headOp_of ho fun ρ' hρ => .inl (h ρ' hρ)
theorem hd_s (ho : ops[i]? = some o) (h : ∀ ρ' : Env, (∀ t ∈ looks ops o, ρ' t = ρm t) → wants ops o ρ' false) (hv : v = undef) : ∀ o', ops[i]? = some o' → HeadOp P ops o' ρm aw v :=
  headOp_of ho fun ρ' hρ => .inr (.inl ⟨h ρ' hρ, hv⟩)
end
section
variable {ops : Array Oper} {hs : List Nat} {val : Nat → Value} {ρ1 : Env} {Kn : Env → List Deferred → AW → Prop} {Kp : List PanicEntry → Env → List Deferred → AW → Prop} {l : Array Bool}
def TAll (P : Program) (N : Nat) (ops : Array Oper) (Kn : Env → List Deferred → AW → Prop) (Kp : List PanicEntry → Env → List Deferred → AW → Prop) (m : Nat) (l : Array Bool) (ρ : Env) (ds : List Deferred) (aw : AW) : List Nat → Prop
  | [] => True
  | i :: r => AOps P N ops [i] ρ ds aw (fun ρ' ds' aw' => TailAny P N ops Kn Kp m (l.setIfInBounds i true) ρ' ds' aw') Kp ∧ TAll P N ops Kn Kp m l ρ ds aw r
theorem tAll_get {m : Nat} : ∀ {is : List Nat}, TAll P N ops Kn Kp m l ρ ds aw is → ∀ i ∈ is, AOps P N ops [i] ρ ds aw (fun ρ' ds' aw' => TailAny P N ops Kn Kp m (l.setIfInBounds i true) ρ' ds' aw') Kp
  | [], _, i, hi => by simp at hi
  | j :: is, h, i, hi => by
    rcases List.mem_cons.1 hi with rfl | hi
    · exact h.1
    · exact tAll_get h.2 i hi
theorem tail_n {n m : Nat} {is : List Nat} (hn : n = m + 1) (hr : Region.ready .any ops l = is) (hne : is.isEmpty = false) (h : TAll P N ops Kn Kp m l ρ ds aw is) : TailAny P N ops Kn Kp n l ρ ds aw := by
  subst hn; subst hr
  exact ⟨fun h0 => by rw [h0] at hne; simp at hne, fun i hi => tAll_get h i hi⟩
theorem tail_0 {n : Nat} (hr : Region.ready .any ops l = []) (h : Kn ρ ds aw) : TailAny P N ops Kn Kp n l ρ ds aw := by
  cases n with
  | zero => exact ⟨hr, h⟩
  | succ n => exact ⟨fun _ => h, fun i hi => by rw [hr] at hi; simp at hi⟩
theorem tailAll_cons {hv hv' : List (Nat × Value)} {F : List Nat} {r : List (List Nat)} (hf : (hv.filter fun p => !F.contains p.1) = hv') (hρ : putV ops ρ hv' = ρ1)
    (h1 : TailAny P N ops Kn Kp (left (maskOf ops.size hs F)) (maskOf ops.size hs F) ρ1 ds aw)
    (h2 : TailAllV P N ops hs hv ρ ds aw Kn Kp r) : TailAllV P N ops hs hv ρ ds aw Kn Kp (F :: r) := by
  subst hρ; subst hf; exact ⟨h1, h2⟩
end
theorem ago_cut (F : Env → Prop) (hF : F ρ) (h : ∀ ρ, F ρ → AGo P N k ρ ds aw R) : AGo P N k ρ ds aw R := h ρ hF
theorem ago_retE {α : Type} {fn : Func} {sh : α → Value} {Q : α → AW → Prop} {E : List PanicEntry → AW → Prop} {r : α} {v : Value} (e : c = .ret) (hr : ARes P fn N ρ aw v) (hv : v = sh r) (H : Q r aw) :
    AGo P N (.code c :: k) ρ [] aw (RR P fn N sh Q E) := e ▸ ago_retR hr hv H
end

inductive EqFs (P : Program) (xs ys : Array Value) : List Field → Bool → Prop
  | nil : EqFs P xs ys [] true
  | int {f : Field} {fs : List Field} {k : IntKind} {a c : Int} {b : Bool} (hn : (f.name == "_") = false) (hu : P.underlying f.type = some (.int k)) (hx : xs[f.offset]? = some (.int k a)) (hy : ys[f.offset]? = some (.int k c))
      (t : EqFs P xs ys fs b) : EqFs P xs ys (f :: fs) (decide (a = c) && b)
  | str {f : Field} {fs : List Field} {a c : ByteArray} {b : Bool} (hn : (f.name == "_") = false) (hu : P.underlying f.type = some .string) (hx : xs[f.offset]? = some (.string a)) (hy : ys[f.offset]? = some (.string c))
      (t : EqFs P xs ys fs b) : EqFs P xs ys (f :: fs) (decide (a = c) && b)
  | bool {f : Field} {fs : List Field} {a c : Bool} {b : Bool} (hn : (f.name == "_") = false) (hu : P.underlying f.type = some .bool) (hx : xs[f.offset]? = some (.bool a)) (hy : ys[f.offset]? = some (.bool c))
      (t : EqFs P xs ys fs b) : EqFs P xs ys (f :: fs) (decide (a = c) && b)
theorem run_part1 {P : Program} {e : TypeId} {d : TypeDesc} (hu : P.underlying e = some d) (ha : aggT d = false) {xs : Array Value} {off : Nat} {v : Value} (hx : xs[off]? = some v) (w : World) : (part e xs off).run P w = .ok v w := by
  cases d <;> simp_all [aggT, part, isAgg, run_underlying hu]
theorem beq_ba (a c : ByteArray) : (a == c) = decide (a = c) := by
  rw [beq_toListBytes, ByteArray.toList_eq, ByteArray.toList_eq]
  obtain ⟨⟨x⟩⟩ := a
  obtain ⟨⟨y⟩⟩ := c
  by_cases h : x = y
  · subst h; simp
  · have h2 : ¬ (ByteArray.mk ⟨x⟩ = ByteArray.mk ⟨y⟩) := by
      intro e; apply h; injection e with e; injection e
    rw [decide_eq_false h2]
    simpa using h
theorem EqFs.run {P : Program} {xs ys : Array Value} (w : World) (d : Nat) : ∀ {fs : List Field} {b : Bool}, EqFs P xs ys fs b → (Op.eqFields (d + 1) xs ys fs).run P w = .ok b w
  | _, _, .nil => by simp [Op.eqFields]
  | _, _, .int (a := a) (c := c) hn hu hx hy t => by
    have hn' := hn; rw [beq_eq_false_iff_ne] at hn'
    simp only [Op.eqFields, if_pos hn', Sem.run_bind, run_part1 hu rfl hx, run_part1 hu rfl hy, Result.andThen_ok, run_equalIn_int w d _ _ _ a c hu]
    by_cases h : a = c
    · simp [h, EqFs.run w d t]
    · simp [h]
  | _, _, .str (a := a) (c := c) hn hu hx hy t => by
    have hn' := hn; rw [beq_eq_false_iff_ne] at hn'
    simp only [Op.eqFields, if_pos hn', Sem.run_bind, run_part1 hu rfl hx, run_part1 hu rfl hy, Result.andThen_ok, run_equalIn_string w d _ a c hu, ← beq_toListBytes, beq_ba]
    by_cases h : a = c
    · simp [h, EqFs.run w d t]
    · simp [h]
  | _, _, .bool (a := a) (c := c) hn hu hx hy t => by
    have hn' := hn; rw [beq_eq_false_iff_ne] at hn'
    simp only [Op.eqFields, if_pos hn', Sem.run_bind, run_part1 hu rfl hx, run_part1 hu rfl hy, Result.andThen_ok, run_equalIn_bool' w d _ a c hu]
    by_cases h : a = c
    · simp [h, EqFs.run w d t]
    · simp [h]
theorem stEq {P : Program} {t : TypeId} {fs : Array Field} {xs ys : Array Value} {b : Bool} (hu : P.underlying t = some (.struct fs)) (hp : P.stoodInHeld t = false) (hm : P.eqGuardType P.depth t = false) (h : EqFs P xs ys fs.toList b) (x y : Operand) (w : World) :
    (do eqGuard .eql t x y (.agg xs) (.agg ys); binOp .eql t (.agg xs) (.agg ys) : Sem Value).run P w = .ok (.bool b) w := by
  have hf : P.fieldsOf t = fs := by simp [Program.fieldsOf, hu]
  simp only [Sem.run_bind, run_eqGuard_agg w _ _ _ _ _ _ hm, Result.andThen_ok, run_eql_struct, run_equalIn_struct w 9999 t xs ys (by rw [hf]; exact hu) hp, hf, h.run w 9998]
theorem stNe {P : Program} {t : TypeId} {fs : Array Field} {xs ys : Array Value} {b : Bool} (hu : P.underlying t = some (.struct fs)) (hp : P.stoodInHeld t = false) (hm : P.eqGuardType P.depth t = false) (h : EqFs P xs ys fs.toList b) (x y : Operand) (w : World) :
    (do eqGuard .neq t x y (.agg xs) (.agg ys); binOp .neq t (.agg xs) (.agg ys) : Sem Value).run P w = .ok (.bool (!b)) w := by
  have hf : P.fieldsOf t = fs := by simp [Program.fieldsOf, hu]
  simp only [Sem.run_bind, run_eqGuard_agg w _ _ _ _ _ _ hm, Result.andThen_ok, run_neq_struct, run_equalIn_struct w 9999 t xs ys (by rw [hf]; exact hu) hp, hf, h.run w 9998]
end Go.Am
