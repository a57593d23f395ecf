/- The library of this claim, part 3: values alike, an abstract memory, operations, regions, an interpreter that the kernel runs. -/
import Derived.Test.YtfoceofohlpafaaDoorL2
set_option linter.unusedSimpArgs false
set_option linter.unusedVariables false
set_option linter.unusedSectionVars false
namespace Go.Ri
open Go Go.Am Go.RowKit
noncomputable def lEqL (e : Value → Value → Bool) : List Value → List Value → Bool := List.rec (motive := fun _ => List Value → Bool) (fun l => List.rec (motive := fun _ => Bool) true (fun _ _ _ => false) l) fun a _ ih l => List.rec (motive := fun _ => Bool) false (fun b l _ => Bool.rec (motive := fun _ => Bool) false (ih l) (e a b)) l
def qBool (p : Bool) : Value → Bool
  | .bool q => p == q
  | _ => false
def qInt (k : IntKind) (m : Int) : Value → Bool
  | .int k' n => decide (k = k') && decide (m = n)
  | _ => false
def qStr (x : List UInt8) : Value → Bool
  | .string ⟨⟨y⟩⟩ => decide (x = y)
  | _ => false
def qAddr : Option Addr → Option Addr → Bool
  | none, none => true
  | some ⟨b1, o1, none⟩, some ⟨b2, o2, none⟩ => Nat.beq b1 b2 && Nat.beq o1 o2
  | _, _ => false
def qPtr (x : Option Addr) : Value → Bool
  | .pointer y => qAddr x y
  | _ => false
def qSl (x : Option Addr) (l c : Nat) : Value → Bool
  | .slice y l' c' => qAddr x y && (Nat.beq l l' && Nat.beq c c')
  | _ => false
def qMap (x : Option Nat) : Value → Bool
  | .map none => (match x with | none => true | some _ => false)
  | .map (some y) => (match x with | none => false | some x => Nat.beq x y)
  | _ => false
def qNF : Value → Bool
  | .nilFunc => true
  | _ => false
def qNI : Value → Bool
  | .nilIface => true
  | _ => false
noncomputable def qIf (e : Value → Value → Bool) (t : TypeId) (u : Value) : Value → Bool
  | .iface t' u' => Nat.beq t t' && e u u'
  | _ => false
noncomputable def qFn (e : Value → Value → Bool) (f : FuncId) (a c : List Value) : Value → Bool
  | .func (.func f') ⟨a'⟩ ⟨c'⟩ => Nat.beq f f' && (lEqL e a a' && lEqL e c c')
  | _ => false
noncomputable def qAgg (e : Value → Value → Bool) (a : List Value) : Value → Bool
  | .agg ⟨b⟩ => lEqL e a b
  | _ => false
noncomputable def qTup (e : Value → Value → Bool) (a : List Value) : Value → Bool
  | .tuple ⟨b⟩ => lEqL e a b
  | _ => false
noncomputable def vEq : Nat → Value → Value → Bool := Nat.rec (motive := fun _ => Value → Value → Bool) (fun _ _ => false) fun _ ih a b => match a with
  | .bool p => qBool p b
  | .int k m => qInt k m b
  | .string ⟨⟨x⟩⟩ => qStr x b
  | .pointer x => qPtr x b
  | .slice x l c => qSl x l c b
  | .map x => qMap x b
  | .nilFunc => qNF b
  | .nilIface => qNI b
  | .iface t u => qIf ih t u b
  | .func (.func f) ⟨a⟩ ⟨c⟩ => qFn ih f a c b
  | .agg ⟨a⟩ => qAgg ih a b
  | .tuple ⟨a⟩ => qTup ih a b
  | _ => false
theorem lEqL_spec {e : Value → Value → Bool} (he : ∀ a b, e a b = true → a = b) : ∀ {a b : List Value}, lEqL e a b = true → a = b
  | [], [], _ => rfl
  | [], _ :: _, h => by cases h
  | _ :: _, [], h => by cases h
  | x :: a, y :: b, h => by
    have h : Bool.rec (motive := fun _ => Bool) false (lEqL e a b) (e x y) = true := h
    cases hx : e x y with
    | false => rw [hx] at h; cases h
    | true =>
      rw [hx] at h
      rw [he x y hx, lEqL_spec he h]
theorem qAddr_spec {x y : Option Addr} (h : qAddr x y = true) : x = y := by
  unfold qAddr at h
  split at h
  · rfl
  · simp only [Bool.and_eq_true, Nat.beq_eq] at h
    rw [h.1, h.2]
  · cases h
theorem vEq_spec : ∀ (n : Nat) (a b : Value), vEq n a b = true → a = b
  | 0, a, b, h => by cases h
  | n + 1, a, b, h0 => by
    have ih := vEq_spec n
    have h : (match (generalizing := false) a with
      | .bool p => qBool p b
      | .int k m => qInt k m b
      | .string ⟨⟨x⟩⟩ => qStr x b
      | .pointer x => qPtr x b
      | .slice x l c => qSl x l c b
      | .map x => qMap x b
      | .nilFunc => qNF b
      | .nilIface => qNI b
      | .iface t u => qIf (vEq n) t u b
      | .func (.func f) ⟨a⟩ ⟨c⟩ => qFn (vEq n) f a c b
      | .agg ⟨a⟩ => qAgg (vEq n) a b
      | .tuple ⟨a⟩ => qTup (vEq n) a b
      | _ => false) = true := h0
    clear h0
    split at h
    · unfold qBool at h; split at h
      · rw [eq_of_beq h]
      · cases h
    · unfold qInt at h; split at h
      · simp only [Bool.and_eq_true, decide_eq_true_eq] at h; rw [h.1, h.2]
      · cases h
    · unfold qStr at h; split at h
      · rw [of_decide_eq_true h]
      · cases h
    · unfold qPtr at h; split at h
      · rw [qAddr_spec h]
      · cases h
    · unfold qSl at h; split at h
      · simp only [Bool.and_eq_true, Nat.beq_eq] at h; rw [qAddr_spec h.1, h.2.1, h.2.2]
      · cases h
    · unfold qMap at h; split at h
      · split at h
        · rfl
        · cases h
      · split at h
        · cases h
        · rw [Nat.eq_of_beq_eq_true h]
      · cases h
    · unfold qNF at h; split at h
      · rfl
      · cases h
    · unfold qNI at h; split at h
      · rfl
      · cases h
    · unfold qIf at h; split at h
      · simp only [Bool.and_eq_true, Nat.beq_eq] at h; rw [h.1, ih _ _ h.2]
      · cases h
    · unfold qFn at h; split at h
      · simp only [Bool.and_eq_true, Nat.beq_eq] at h; rw [h.1, lEqL_spec ih h.2.1, lEqL_spec ih h.2.2]
      · cases h
    · unfold qAgg at h; split at h
      · rw [lEqL_spec ih h]
      · cases h
    · unfold qTup at h; split at h
      · rw [lEqL_spec ih h]
      · cases h
    · cases h
variable [SymE]
variable [FT] [FTok]
abbrev Caller := FuncId → List Value → Mem → Option (AEnd × Mem)
def CS (P : Program) (C : Caller) : Prop := ∀ f args M e M', C f args M = some (e, M') → ACalls P f args M.abs fun e' aw' => e' = e ∧ aw' = M'.abs
section
variable {R : Type}
noncomputable def doT (t : T Value) (k : T Value → R) : R := T.dn t k
theorem doT_eq (t : T Value) (k : T Value → R) : doT t k = k t := rfl
noncomputable def doM (M : Mem) (k : Mem → R) : R := Mem.rec (motive := fun _ => R) (fun bl n => T.dn bl fun bl => doN n fun n => k ⟨bl, n⟩) M
theorem doM_eq (M : Mem) (k : Mem → R) : doM M k = k M := by
  obtain ⟨bl, n⟩ := M
  show T.dn bl (fun bl => doN n fun n => k ⟨bl, n⟩) = _
  rw [T.dn_eq, doN_eq]
end
inductive OpsR where
  | norm (ρ : T Value) (ds : List Deferred) (M : Mem)
  | pan (ch : List PanicEntry) (ρ : T Value) (ds : List Deferred) (M : Mem)
  | bad
def OpsR.holds (Kn : Env → List Deferred → AW → Prop) (Kp : List PanicEntry → Env → List Deferred → AW → Prop) : OpsR → Prop
  | .norm ρ ds M => Kn (slot ρ) ds M.abs
  | .pan ch ρ ds M => Kp ch (slot ρ) ds M.abs
  | .bad => False
def OpsR.holdsX (ops : Array Oper) (Kn : Env → List Deferred → AW → Prop) (Kp : List PanicEntry → Env → List Deferred → AW → Prop) : OpsR → Prop
  | .norm ρ ds M => Kn (slot ρ) ds M.abs
  | .pan ch ρ ds M => ∀ ρ', Off ops (slot ρ) ρ' → Kp ch ρ' ds M.abs
  | .bad => False
noncomputable def op1 (P : Program) (X : Exts) (C : Caller) (ops : Array Oper) (o : Oper) (ρ : T Value) (ds : List Deferred) (M : Mem) (next : T Value → List Deferred → Mem → OpsR) : OpsR := match gd ops (slot ρ) o.guard with
  | none => .bad
  | some false => doT (putS ρ o.dst undef) fun ρ => next ρ ds M
  | some true => (match o.op with
    | .call ⟨.value z, ⟨xs⟩, _⟩ => (match calls P (slot ρ) z xs with
      | none => (match extR P X (slot ρ) z xs with
        | none => .bad
        | some v => doV v fun v => doT (putS ρ o.dst v) fun ρ => next ρ ds M)
      | some (g, l) => doL l fun l => (match C g l M with
        | none => .bad
        | some (.returned v, M') => doV v fun v => doT (putS ρ o.dst v) fun ρ => doM M' fun M' => next ρ ds M'
        | some (.panicked ch, M') => .pan ch ρ ds M'))
    | .defer ⟨.value z, ⟨xs⟩, _⟩ => (match defers P (slot ρ) z xs with
      | none => .bad
      | some d => doT (putS ρ o.dst undef) fun ρ => next ρ (d :: ds) M)
    | .panic x => (match okv P.globals.size (slot ρ) x with
      | some (.iface u z) => .pan [⟨.iface u z, false, false⟩] ρ ds M
      | _ => .bad)
    | op => (match eOp P (slot ρ) M op with
      | none => .bad
      | some (v, M') => doV v fun v => doT (putS ρ o.dst v) fun ρ => doM M' fun M' => next ρ ds M'))
noncomputable def ops1 (P : Program) (X : Exts) (C : Caller) (ops : Array Oper) (l : List Oper) : T Value → List Deferred → Mem → OpsR := List.rec (motive := fun _ => T Value → List Deferred → Mem → OpsR) (fun ρ ds M => .norm ρ ds M)
  (fun o _ ih ρ ds M => op1 P X C ops o ρ ds M ih) l
section
variable {P : Program} {X : Exts} {C : Caller} {N : Nat} {ops : Array Oper} {Kn : Env → List Deferred → AW → Prop} {Kp : List PanicEntry → Env → List Deferred → AW → Prop}
theorem slot_put (ρ : T Value) (d : Option Tmp) (v : Value) : slot (putS ρ d v) = (show Env from slot ρ).put d v := putS_spec ρ d v
theorem op1_spec (hX : ExtOk P X) (hC : CS P C) (hN : dstsOk N ops = true) {o : Oper} {i : Nat} {rest : List Nat} (ho : ops[i]? = some o) {next : T Value → List Deferred → Mem → OpsR}
    (hn : ∀ ρ ds M, (next ρ ds M).holds Kn Kp → AOps P N ops rest (slot ρ) ds M.abs Kn Kp) {ρ : T Value} {ds : List Deferred} {M : Mem} (h : (op1 P X C ops o ρ ds M next).holds Kn Kp) : AOps P N ops (i :: rest) (slot ρ) ds M.abs Kn Kp := by
  unfold op1 at h
  split at h
  · exact h.elim
  · rename_i hg
    rw [doT_eq] at h
    have := hn _ _ _ h
    rw [slot_put] at this
    exact aops_skip hN ho (gd_spec hg Agr.refl) this
  · rename_i hg
    have hw := gd_spec (ρ := slot ρ) (ops := ops) (o := o) hg Agr.refl
    generalize hop : o.op = p at h
    split at h
    · rename_i z xs ts
      split at h
      · split at h
        · exact h.elim
        rename_i v hv
        rw [doV_eq, doT_eq] at h
        have := hn _ _ _ h
        rw [slot_put] at this
        exact aops_val hN ho hw (extR_spec hX hop hv) this
      rename_i g l hc
      rw [doL_eq] at h
      split at h
      · exact h.elim
      · rename_i v M' hr
        rw [doV_eq, doT_eq, doM_eq] at h
        have := hn _ _ _ h
        rw [slot_put] at this
        refine aops_call hN ho hw (calls_spec hop hc) (ACalls.mono (hC _ _ _ _ _ hr) fun e aw' he => ?_)
        obtain ⟨rfl, rfl⟩ := he
        exact this
      · rename_i ch M' hr
        refine aops_call hN ho hw (calls_spec hop hc) (ACalls.mono (hC _ _ _ _ _ hr) fun e aw' he => ?_)
        obtain ⟨rfl, rfl⟩ := he
        exact h
    · rename_i z xs ts
      split at h
      · exact h.elim
      rename_i d hd
      rw [doT_eq] at h
      have := hn _ _ _ h
      rw [slot_put] at this
      exact aops_defer hN ho hw (defers_spec hop hd) this
    · rename_i x
      split at h
      · rename_i u z hx
        obtain ⟨x1, x2⟩ := okv_spec hx
        exact aops_panic hN ho hw (opp_panic hop x1 x2) h
      · exact h.elim
    · split at h
      · exact h.elim
      rename_i v M' hv
      rw [doV_eq, doT_eq, doM_eq] at h
      have := hn _ _ _ h
      rw [slot_put] at this
      exact aops_val hN ho hw (eOp_spec (by rw [hop]; exact hv)) this
theorem ops1_spec (hX : ExtOk P X) (hC : CS P C) (hN : dstsOk N ops = true) : ∀ (l : List Oper) (i : Nat) (ρ : T Value) (ds : List Deferred) (M : Mem), ops.toList.drop i = l → (ops1 P X C ops l ρ ds M).holds Kn Kp → AOps P N ops (List.range' i l.length) (slot ρ) ds M.abs Kn Kp
  | [], i, ρ, ds, M, hl, h => aops_nil h
  | o :: l, i, ρ, ds, M, hl, h => by
    have hi : i < ops.toList.length := by
      rcases Nat.lt_or_ge i ops.toList.length with h | h
      · exact h
      · rw [List.drop_eq_nil_of_le h] at hl; cases hl
    rw [List.drop_eq_getElem_cons hi] at hl
    injection hl with h1 h2
    have ho : ops[i]? = some o := by
      rw [← h1]
      have hi' : i < ops.size := by simpa using hi
      simp [hi']
    exact op1_spec hX hC hN ho (fun ρ ds M h => ops1_spec hX hC hN l (i + 1) ρ ds M h2 h) h
theorem region_spec (hX : ExtOk P X) (hC : CS P C) (hN : dstsOk N ops = true) {ρ : T Value} {ds : List Deferred} {M : Mem} (h : (ops1 P X C ops ops.toList ρ ds M).holds Kn Kp) : AOps P N ops (List.range ops.size) (slot ρ) ds M.abs Kn Kp := by
  have := ops1_spec hX hC hN ops.toList 0 ρ ds M rfl h
  rw [Array.length_toList] at this
  rw [List.range_eq_range']
  exact this
end
noncomputable def hval (P : Program) (ops : Array Oper) (o : Oper) (ρ : Env) (M : Mem) : Option Value := match gd ops ρ o.guard with
  | none => none
  | some false => some undef
  | some true => bif quiet P o.op then (match eOp P ρ M o.op with
    | none => none
    | some (v, _) => some v) else none
theorem hval_spec {P : Program} {ops : Array Oper} {o : Oper} {ρ : Env} {M : Mem} {v : Value} (h : hval P ops o ρ M = some v) : HeadOp P ops o ρ M.abs v := by
  intro ρ' hag
  unfold hval at h
  split at h
  · cases h
  · rename_i hg
    simp only [Option.some.injEq] at h
    exact .inr (.inl ⟨gd_spec hg hag, h.symm⟩)
  · rename_i hg
    rw [cond_some] at h
    obtain ⟨hq, h⟩ := h
    split at h
    · cases h
    rename_i u M' hu
    simp only [Option.some.injEq] at h
    subst h
    obtain rfl := quiet_spec hq hu
    refine .inl ⟨gd_spec hg hag, eOp_spec ?_⟩
    rw [eOp_congr (agr_x hag)]; exact hu
noncomputable def heads (P : Program) (ops : Array Oper) (M : Mem) (hs : List Nat) : T Value → Option (T Value) := List.rec (motive := fun _ => T Value → Option (T Value)) (fun ρ => some ρ)
  (fun i _ ih ρ => match ops[i]? with
    | none => none
    | some o => (match hval P ops o (slot ρ) M with
      | none => none
      | some v => doV v fun v => doT (putS ρ o.dst v) fun ρ => ih ρ)) hs
noncomputable def again (P : Program) (ops : Array Oper) (ρ : Env) (M : Mem) (q : List Nat) : Bool := List.rec (motive := fun _ => Bool) true
  (fun i _ ih => match ops[i]? with
    | none => false
    | some o => (match o.dst with
      | none => false
      | some d => (match hval P ops o ρ M with
        | none => false
        | some v => vEq 8 v (ρ d) && ih))) q
theorem again_spec {P : Program} {ops : Array Oper} {ρ : Env} {M : Mem} : ∀ {q : List Nat}, again P ops ρ M q = true → FFl P ops q ρ M.abs
  | [], _ => fun i hi => by simp at hi
  | i :: q, h => by
    have h : (match ops[i]? with
      | none => false
      | some o => (match o.dst with
        | none => false
        | some d => (match hval P ops o ρ M with
          | none => false
          | some v => vEq 8 v (ρ d) && again P ops ρ M q))) = true := h
    split at h
    · cases h
    rename_i o ho
    split at h
    · cases h
    rename_i d hd
    split at h
    · cases h
    rename_i v hvv
    rename_i h
    rw [Bool.and_eq_true] at h
    obtain ⟨ha, hb⟩ := h
    intro j hj o' ho' d' hd'
    rcases List.mem_cons.1 hj with rfl | hj
    · rw [ho] at ho'
      obtain rfl := Option.some.inj ho'
      rw [hd] at hd'
      obtain rfl := Option.some.inj hd'
      rw [← vEq_spec _ _ _ ha]
      exact hval_spec hvv
    · exact again_spec hb j hj o' ho' d' hd'
theorem heads_spec {P : Program} {ops : Array Oper} {M : Mem} : ∀ {hs : List Nat} {ρ ρ' : T Value}, heads P ops M hs ρ = some ρ' → OffL ops hs (slot ρ) (slot ρ')
  | [], ρ, ρ', h => by
    have h : some ρ = some ρ' := h
    simp only [Option.some.injEq] at h
    subst h
    exact fun _ _ => rfl
  | i :: hs, ρ, ρ', h => by
    have h : (match ops[i]? with
      | none => none
      | some o => (match hval P ops o (slot ρ) M with
        | none => none
        | some v => doV v fun v => doT (putS ρ o.dst v) fun ρ => heads P ops M hs ρ)) = some ρ' := h
    split at h
    · cases h
    rename_i o ho
    split at h
    · cases h
    rename_i v hvv
    rw [doV_eq, doT_eq] at h
    have := heads_spec h
    intro t ht
    rw [this t fun j hj => ht j (by simp [hj]), show slot (putS ρ o.dst v) t = ((show Env from slot ρ).put o.dst v) t from congrFun (putS_spec ρ o.dst v) t]
    have e1 : dstOf ops i = o.dst := by simp [dstOf, ho]
    have hne := ht i (by simp)
    rw [e1] at hne
    cases hd : o.dst with
    | none => rfl
    | some d => rw [put_at, if_neg (fun h => hne (by rw [hd, h]))]
noncomputable def tailR (P : Program) (X : Exts) (C : Caller) (ops : Array Oper) (tl : Tl) : T Value → List Deferred → Mem → OpsR := List.rec (motive := fun _ => T Value → List Deferred → Mem → OpsR) (fun ρ ds M => .norm ρ ds M)
  (fun tq _ ih ρ ds M => match ops[tq.1]? with
    | none => .bad
    | some o => (match o.op with
      | .defer _ => .bad
      | _ => op1 P X C ops o ρ ds M fun ρ ds M => (match heads P ops M tq.2.2 ρ with
        | none => .bad
        | some ρ => bif again P ops (slot ρ) M (tq.2.1 ++ tq.2.2) then ih ρ ds M else .bad))) tl
section
variable {P : Program} {X : Exts} {C : Caller} {N : Nat} {ops : Array Oper} {Kn : Env → List Deferred → AW → Prop} {Kp : List PanicEntry → Env → List Deferred → AW → Prop}
theorem tail_spec (hX : ExtOk P X) (hC : CS P C) : ∀ {tl : Tl} {ρ : T Value} {ds : List Deferred} {M : Mem}, (tailR P X C ops tl ρ ds M).holdsX ops Kn Kp → LinT P ops Kn Kp tl (slot ρ) ds M.abs
  | [], ρ, ds, M, h => h
  | (t, q, nh) :: tl, ρ, ds, M, h => by
    have ih := fun {ρ ds M} => tail_spec hX hC (tl := tl) (ρ := ρ) (ds := ds) (M := M)
    have h : OpsR.holdsX ops Kn Kp (match ops[t]? with
      | none => .bad
      | some o => (match o.op with
        | .defer _ => .bad
        | _ => op1 P X C ops o ρ ds M fun ρ ds M => (match heads P ops M nh ρ with
          | none => .bad
          | some ρ => bif again P ops (slot ρ) M (q ++ nh) then tailR P X C ops tl ρ ds M else .bad))) := h
    split at h
    · exact h.elim
    rename_i o ho
    have nx : ∀ {ρ ds M}, OpsR.holdsX ops Kn Kp (match heads P ops M nh ρ with
        | none => .bad
        | some ρ => bif again P ops (slot ρ) M (q ++ nh) then tailR P X C ops tl ρ ds M else .bad) → ∃ ρ2, OffL ops nh (slot ρ) ρ2 ∧ FFl P ops (q ++ nh) ρ2 M.abs ∧ LinT P ops Kn Kp tl ρ2 ds M.abs := by
      intro ρ ds M h
      split at h
      · exact h.elim
      rename_i ρ2 hh
      cases hb : again P ops (slot ρ2) M (q ++ nh) with
      | false => rw [hb] at h; exact h.elim
      | true => rw [hb] at h; exact ⟨_, heads_spec hh, again_spec hb, ih h⟩
    split at h
    · exact h.elim
    rename_i hnd
    refine ⟨o, ho, ?_⟩
    unfold op1 at h
    split at h
    · exact h.elim
    · rename_i hg
      rw [doT_eq] at h
      have := nx h
      rw [slot_put] at this
      exact .skip (fun ρ' hag => gd_spec hg hag) this
    · rename_i hg
      generalize hop : o.op = p at h
      split at h
      · rename_i z xs ts
        have hxx : ∀ ρ', Agr ops o (slot ρ) ρ' → AgreeX P.globals.size (slot ρ) ρ' (z :: xs) := fun ρ' hag => by
          have hx := agr_x (G := P.globals.size) hag
          rw [hop] at hx
          intro y hy
          refine hx y ?_
          simp only [Op.operands, Call.operands]
          rcases List.mem_cons.1 hy with rfl | hy
          · simp
          · simp; exact .inr hy
        split at h
        · split at h
          · exact h.elim
          rename_i v hv
          rw [doV_eq, doT_eq] at h
          have := nx h
          rw [slot_put] at this
          refine .val (fun ρ' hag => ⟨gd_spec hg hag, extR_spec hX hop ?_⟩) this
          rw [extR_congr (ρ := slot ρ) (hxx ρ' hag)]; exact hv
        rename_i g l hc
        rw [doL_eq] at h
        have hcall : ∀ ρ', Agr ops o (slot ρ) ρ' → wants ops o ρ' true ∧ OpC P o ρ' g l := fun ρ' hag => by
          refine ⟨gd_spec hg hag, calls_spec hop ?_⟩
          rw [calls_congr (ρ := slot ρ)]
          · exact hc
          · have hx := agr_x (G := P.globals.size) hag
            rw [hop] at hx
            intro y hy
            refine hx y ?_
            simp only [Op.operands, Call.operands]
            rcases List.mem_cons.1 hy with rfl | hy
            · simp
            · simp; exact .inr hy
        split at h
        · exact h.elim
        · rename_i v M' hr
          rw [doV_eq, doT_eq, doM_eq] at h
          have := nx h
          rw [slot_put] at this
          refine .call hcall (ACalls.mono (hC _ _ _ _ _ hr) fun e aw' he => ?_)
          obtain ⟨rfl, rfl⟩ := he
          exact this
        · rename_i ch M' hr
          refine .call hcall (ACalls.mono (hC _ _ _ _ _ hr) fun e aw' he => ?_)
          obtain ⟨rfl, rfl⟩ := he
          exact h
      · rename_i z xs ts
        exact absurd hop (hnd _)
      · rename_i x
        split at h
        · rename_i u z hx
          refine .panic (fun ρ' hag => ⟨gd_spec hg hag, ?_⟩) h
          have hx' : okv P.globals.size ρ' x = some (.iface u z) := by
            rw [agr_x (G := P.globals.size) hag x (by rw [hop]; simp [Op.operands])]; exact hx
          obtain ⟨x1, x2⟩ := okv_spec hx'
          exact opp_panic hop x1 x2
        · exact h.elim
      · split at h
        · exact h.elim
        rename_i v M' hv'
        rw [doV_eq, doT_eq, doM_eq] at h
        have := nx h
        rw [slot_put] at this
        refine .val (fun ρ' hag => ⟨gd_spec hg hag, eOp_spec ?_⟩) this
        rw [eOp_congr (agr_x hag), hop]; exact hv'
end
end Go.Ri
set_option linter.unusedSimpArgs false
set_option linter.unusedVariables false
set_option linter.unusedSectionVars false
namespace Go.Ri
open Go Go.Am Go.RowKit
variable [SymE]
variable [FT] [FTok]
noncomputable def drawR (P : Program) (X : Exts) (C : Caller) (ops : Array Oper) (hs : List Nat) (tl : Tl) (ρ : T Value) (ds : List Deferred) (M : Mem) : OpsR := match heads P ops M hs ρ with
  | none => .bad
  | some ρ => bif again P ops (slot ρ) M hs then tailR P X C ops tl ρ ds M else .bad
section
variable {P : Program} {X : Exts} {C : Caller} {N : Nat} {ops : Array Oper}
theorem draw_spec (hX : ExtOk P X) (hC : CS P C) (hm : P.follows .mixedOrders = true) (hN : dstsOk N ops = true) {hs : List Nat} {tl : Tl} (hok : linOk ops hs tl = true) {id : Nat} {k : List Item} {R : ADone → Env → List Deferred → AW → Prop} {ρ : T Value} {ds : List Deferred} {M : Mem}
    (h : (drawR P X C ops hs tl ρ ds M).holdsX ops (fun ρ' ds' aw' => AGo P N k ρ' ds' aw' R) (fun ch ρ' ds' aw' => R (.panic ch) ρ' ds' aw')) : AGo P N (.code (.region id ops true) :: k) (slot ρ) ds M.abs R := by
  unfold drawR at h
  split at h
  · exact h.elim
  rename_i ρ' hh
  cases hb : again P ops (slot ρ') M hs with
  | false => rw [hb] at h; exact h.elim
  | true =>
    rw [hb] at h
    exact ago_drawF rfl hm hN hok (heads_spec hh) (again_spec hb) (tail_spec hX hC h)
end
inductive SR where
  | go (todo : List Item) (ρ : T Value) (ds : List Deferred) (M : Mem)
  | fin (d : ADone) (ρ : T Value) (ds : List Deferred) (M : Mem)
  | bad
abbrev Tab := Nat → Option (List Nat × Tl)
def OpsR.sr (k : List Item) (x : OpsR) : SR := match x with
  | .norm ρ ds M => .go k ρ ds M
  | .pan ch ρ ds M => .fin (.panic ch) ρ ds M
  | .bad => .bad
def offB (rs : List Tmp) (ops : Array Oper) : Bool := rs.all fun t => ops.toList.all fun o => o.dst != some t
noncomputable def step1 (P : Program) (X : Exts) (C : Caller) (N : Nat) (tab : Tab) (rs : List Tmp) (todo : List Item) (ρ : T Value) (ds : List Deferred) (M : Mem) : SR := match todo with
  | [] => .fin .ret ρ ds M
  | .code c :: k => (match c with
    | .skip => .go k ρ ds M
    | .seq x y => .go (.code x :: .code y :: k) ρ ds M
    | .label _ => .go k ρ ds M
    | .block id c => .go (.code c :: .inBlock id :: k) ρ ds M
    | .loop c => .go (.code c :: .inLoop c :: k) ρ ds M
    | .scope c => .go (.code c :: .inScope c :: k) ρ ds M
    | .exit id => (match exitTo id k with
      | some k => .go k ρ ds M
      | none => .bad)
    | .goto l => (match gotoIn l k with
      | some k => .go k ρ ds M
      | none => .bad)
    | .cond c x y => (match okv P.globals.size (slot ρ) c with
      | some (.bool true) => .go (.code x :: k) ρ ds M
      | some (.bool false) => .go (.code y :: k) ρ ds M
      | _ => .bad)
    | .ret => .fin .ret ρ ds M
    | .region id ops draw => bif dstsOk N ops then (match draw with
        | false => (ops1 P X C ops ops.toList ρ ds M).sr k
        | true => (match tab id with
          | none => .bad
          | some (hs, tl) => bif linOk ops hs tl then (match drawR P X C ops hs tl ρ ds M with
              | .norm ρ ds M => .go k ρ ds M
              | .pan ch ρ ds M => bif offB rs ops then .fin (.panic ch) ρ ds M else .bad
              | .bad => .bad) else .bad)) else .bad
    | _ => .bad)
  | .inBlock _ :: k => .go k ρ ds M
  | .inLoop c :: k => .go (.code c :: .inLoop c :: k) ρ ds M
  | .inScope _ :: k => .go k ρ ds M
  | _ => .bad
def SR.holds (P : Program) (N : Nat) (rs : List Tmp) (R : ADone → Env → List Deferred → AW → Prop) : SR → Prop
  | .go todo ρ ds M => AGo P N todo (slot ρ) ds M.abs R
  | .fin d ρ ds M => ∀ ρ' : Env, (∀ t ∈ rs, ρ' t = slot ρ t) → R d ρ' ds M.abs
  | .bad => False
section
variable {P : Program} {X : Exts} {C : Caller} {N : Nat} {tab : Tab} {rs : List Tmp} {R : ADone → Env → List Deferred → AW → Prop}
theorem step1_spec (hX : ExtOk P X) (hC : CS P C) (hm : P.follows .mixedOrders = true) {todo : List Item} {ρ : T Value} {ds : List Deferred} {M : Mem} (h : (step1 P X C N tab rs todo ρ ds M).holds P N rs R) : AGo P N todo (slot ρ) ds M.abs R := by
  unfold step1 at h
  split at h
  · exact ago_nil (h _ fun _ _ => rfl)
  · rename_i c k
    split at h
    · exact ago_skip h
    · exact ago_seq h
    · exact ago_label h
    · exact ago_block h
    · exact ago_loop h
    · exact ago_scope h
    · split at h
      · rename_i hk; exact ago_exit hk h
      · exact h.elim
    · split at h
      · rename_i hk; exact ago_goto hk h
      · exact h.elim
    · split at h
      · rename_i hc
        obtain ⟨c1, c2⟩ := okv_spec hc
        exact ago_cond c1 c2 (fun _ => h) (fun h => by cases h)
      · rename_i hc
        obtain ⟨c1, c2⟩ := okv_spec hc
        exact ago_cond c1 c2 (fun h => by cases h) (fun _ => h)
      · exact h.elim
    · exact ago_ret (h _ fun _ _ => rfl)
    · rename_i id ops draw
      cases hN : dstsOk N ops with
      | false => rw [hN] at h; exact h.elim
      | true =>
        rw [hN] at h
        simp only [cond_true] at h
        split at h
        · refine ago_region rfl (region_spec hX hC hN ?_)
          generalize ops1 P X C ops ops.toList ρ ds M = x at h
          cases x with
          | norm ρ ds M => exact h
          | pan ch ρ ds M => exact h _ fun _ _ => rfl
          | bad => exact h
        · split at h
          · exact h.elim
          rename_i hs tl ht
          cases hb : linOk ops hs tl with
          | false => rw [hb] at h; exact h.elim
          | true =>
            rw [hb] at h
            simp only [cond_true] at h
            refine draw_spec hX hC hm hN hb ?_
            generalize drawR P X C ops hs tl ρ ds M = x at h
            cases x with
            | norm ρ ds M => exact h
            | pan ch ρ ds M =>
              cases ho : offB rs ops with
              | false => simp only [ho, cond_false] at h; exact h.elim
              | true =>
                simp only [ho, cond_true] at h
                intro ρ' hoff
                refine h ρ' fun t ht => hoff t fun j hj => ?_
                simp only [offB, List.all_eq_true] at ho
                have hd := ho t ht
                unfold dstOf at hj
                cases hoj : ops[j]? with
                | none => rw [hoj] at hj; cases hj
                | some o =>
                  rw [hoj] at hj
                  have := hd o (by rw [Array.mem_toList_iff]; exact Array.mem_of_getElem? hoj)
                  simp only [Option.bind_some] at hj
                  rw [hj] at this
                  simp at this
            | bad => exact h.elim
    · exact h.elim
  · exact ago_inBlock h
  · exact ago_inLoop h
  · exact ago_inScope h
  · exact h.elim
noncomputable def iter (f : List Item → T Value → List Deferred → Mem → SR) (n : Nat) : List Item → T Value → List Deferred → Mem → SR := Nat.rec (motive := fun _ => List Item → T Value → List Deferred → Mem → SR) f
  (fun _ ih a b c d => SR.rec (motive := fun _ => SR) (fun a b c d => ih a b c d) (fun d ρ ds M => .fin d ρ ds M) .bad (ih a b c d)) n
theorem iter_spec {f : List Item → T Value → List Deferred → Mem → SR} (hf : ∀ todo ρ ds M, (f todo ρ ds M).holds P N rs R → AGo P N todo (slot ρ) ds M.abs R) : ∀ (n : Nat) (todo : List Item) (ρ : T Value) (ds : List Deferred) (M : Mem),
    (iter f n todo ρ ds M).holds P N rs R → AGo P N todo (slot ρ) ds M.abs R
  | 0, todo, ρ, ds, M, h => hf _ _ _ _ h
  | n + 1, todo, ρ, ds, M, h => by
    have h : (SR.rec (motive := fun _ => SR) (fun a b c d => iter f n a b c d) (fun d ρ ds M => .fin d ρ ds M) .bad (iter f n todo ρ ds M) : SR).holds P N rs R := h
    refine iter_spec hf n _ _ _ _ ?_
    cases hx : iter f n todo ρ ds M with
    | go a b c d =>
      rw [hx] at h
      exact iter_spec hf n _ _ _ _ h
    | fin d ρ' ds' M' => rw [hx] at h; exact h
    | bad => rw [hx] at h; exact h
end
noncomputable def res1 (P : Program) (ρ : Env) (M : Mem) : ResultVar → Option Value
  | .tmp t => some (ρ t)
  | .cell a t => (match ρ a with
    | .pointer (some ⟨b, i, none⟩) => (match P.underlying t with
      | none => none
      | some d => bif aggT d then (match (P.info? t).map (·.size) with
          | none => none
          | some n => (match M.getN b i n with
            | none => none
            | some l => some (.agg ⟨l⟩)))
        else M.get b i)
    | _ => none)
theorem res1_spec {P : Program} {ρ : Env} {M : Mem} {r : ResultVar} {v : Value} (h : res1 P ρ M r = some v) : OneR P ρ M.abs r v := by
  cases r with
  | tmp t => simp only [res1, Option.some.injEq] at h; exact oneT h
  | cell a t =>
    simp only [res1] at h
    split at h
    · rename_i b i ha
      split at h
      · cases h
      rename_i d hu
      cases hag : aggT d with
      | true =>
        rw [hag] at h
        simp only [cond_true] at h
        split at h
        · cases h
        rename_i n hn
        split at h
        · cases h
        rename_i l hl
        simp only [Option.some.injEq] at h; subst h
        exact oneN ha rfl hu hag hn (M.getN_spec hl)
      | false =>
        rw [hag] at h
        simp only [cond_false] at h
        exact one1 ha rfl hu hag (M.get_spec h)
    · cases h
def rSlot : ResultVar → Tmp
  | .tmp t => t
  | .cell a _ => a
theorem res1_congr {P : Program} {ρ ρ' : Env} {M : Mem} {r : ResultVar} (h : ρ' (rSlot r) = ρ (rSlot r)) : res1 P ρ' M r = res1 P ρ M r := by
  cases r with
  | tmp t => simp only [res1, rSlot] at h ⊢; rw [h]
  | cell a t => simp only [res1, rSlot] at h ⊢; rw [h]
noncomputable def resF (P : Program) (fn : Func) (ρ : Env) (M : Mem) : Option Value := match fn.results with
  | ⟨[]⟩ => some (.tuple ⟨[]⟩)
  | ⟨[a]⟩ => res1 P ρ M a
  | ⟨[a, b]⟩ => (match res1 P ρ M a, res1 P ρ M b with
    | some u, some v => some (.tuple ⟨[u, v]⟩)
    | _, _ => none)
  | ⟨[a, b, c]⟩ => (match res1 P ρ M a, res1 P ρ M b, res1 P ρ M c with
    | some u, some v, some w => some (.tuple ⟨[u, v, w]⟩)
    | _, _, _ => none)
  | ⟨[a, b, c, d]⟩ => (match res1 P ρ M a, res1 P ρ M b, res1 P ρ M c, res1 P ρ M d with
    | some u, some v, some w, some x => some (.tuple ⟨[u, v, w, x]⟩)
    | _, _, _, _ => none)
  | _ => none
def rSlots (fn : Func) : List Tmp := fn.results.toList.map rSlot
theorem resF_spec {P : Program} {fn : Func} {N : Nat} {ρ ρ' : Env} {M : Mem} {v : Value} (h : resF P fn ρ M = some v) (hr : ∀ t ∈ rSlots fn, ρ' t = ρ t) : ARes P fn N ρ' M.abs v := by
  unfold resF at h
  have one : ∀ r u, r ∈ fn.results.toList → res1 P ρ M r = some u → OneR P ρ' M.abs r u := fun r u hm hu => by
    refine res1_spec ?_
    rw [res1_congr (ρ := ρ) (hr _ (List.mem_map.2 ⟨r, hm, rfl⟩))]
    exact hu
  split at h
  · rename_i hf
    simp only [Option.some.injEq] at h; subst h
    exact ares_0 hf
  · rename_i a hf
    exact ares_1 hf (one a _ (by rw [hf]; simp) h)
  · rename_i a b hf
    split at h
    · rename_i u w h1 h2
      simp only [Option.some.injEq] at h; subst h
      exact ares_2 hf (one a _ (by rw [hf]; simp) h1) (one b _ (by rw [hf]; simp) h2)
    · cases h
  · rename_i a b c hf
    split at h
    · rename_i u w x h1 h2 h3
      simp only [Option.some.injEq] at h; subst h
      exact ares_3 hf (one a _ (by rw [hf]; simp) h1) (one b _ (by rw [hf]; simp) h2) (one c _ (by rw [hf]; simp) h3)
    · cases h
  · rename_i a b c d hf
    split at h
    · rename_i u w x y h1 h2 h3 h4
      simp only [Option.some.injEq] at h; subst h
      exact ares_4 hf (one a _ (by rw [hf]; simp) h1) (one b _ (by rw [hf]; simp) h2) (one c _ (by rw [hf]; simp) h3) (one d _ (by rw [hf]; simp) h4)
    · cases h
  · cases h
abbrev CallerD := FuncId → List Value → ADone → Mem → Option (AEnd × ADone × Mem)
def CDS (P : Program) (D : CallerD) : Prop := ∀ f args u M e u' M', D f args u M = some (e, u', M') → ACallsD P f args u M.abs fun e' u'' aw' => e' = e ∧ u'' = u' ∧ aw' = M'.abs
noncomputable def leave (P : Program) (fn : Func) (D : CallerD) (ρ : T Value) (ds : List Deferred) : ADone → Mem → Option (AEnd × Mem) := List.rec (motive := fun _ => ADone → Mem → Option (AEnd × Mem))
  (fun u M => match u with
    | .ret => (match resF P fn (slot ρ) M with
      | some v => some (.returned v, M)
      | none => none)
    | .panic ch => some (.panicked ch, M))
  (fun d _ ih u M => match d.target with
    | .fn (.func g) ⟨cap⟩ => bif fnOk P g then (match D g (d.args.toList ++ cap) u M with
      | some (.returned _, u', M') => ih (asettle u') M'
      | some (.panicked ch, u', M') => ih (araised u' ch) M'
      | none => none) else none
    | _ => none) ds
theorem leave_spec {P : Program} {fn : Func} {D : CallerD} {N : Nat} (hD : CDS P D) {ρ : T Value} {ρ' : Env} (hr : ∀ t ∈ rSlots fn, ρ' t = slot ρ t) {e : AEnd} {M' : Mem} : ∀ {ds : List Deferred} {u : ADone} {M : Mem}, leave P fn D ρ ds u M = some (e, M') →
    ALeaves P fn N ρ' (fun e' aw' => e' = e ∧ aw' = M'.abs) ds u M.abs
  | [], .ret, M, h => by
    have h : (match resF P fn (slot ρ) M with
      | some v => some (AEnd.returned v, M)
      | none => none) = some (e, M') := h
    split at h
    · rename_i v hv
      simp only [Option.some.injEq, Prod.mk.injEq] at h
      obtain ⟨rfl, rfl⟩ := h
      exact ⟨v, resF_spec hv hr, rfl, rfl⟩
    · cases h
  | [], .panic ch, M, h => by
    have h : some (AEnd.panicked ch, M) = some (e, M') := h
    simp only [Option.some.injEq, Prod.mk.injEq] at h
    obtain ⟨rfl, rfl⟩ := h
    exact ⟨rfl, rfl⟩
  | d :: ds, u, M, h => by
    have ih := fun {u M} => leave_spec (N := N) hD hr (e := e) (M' := M') (ds := ds) (u := u) (M := M)
    have h : (match d.target with
      | .fn (.func g) ⟨cap⟩ => bif fnOk P g then (match D g (d.args.toList ++ cap) u M with
        | some (.returned _, u', M') => leave P fn D ρ ds (asettle u') M'
        | some (.panicked ch, u', M') => leave P fn D ρ ds (araised u' ch) M'
        | none => none) else none
      | _ => none) = some (e, M') := h
    split at h
    · rename_i g cap htar
      rw [cond_some] at h
      obtain ⟨hf, h⟩ := h
      obtain ⟨fn', c, f1, f2, f3⟩ := fnOk_spec hf
      refine ⟨g, ⟨cap⟩, htar, ⟨fn', c, f1, f2, f3⟩, ?_⟩
      split at h
      · rename_i v u' M2 hd
        refine ACallsD.mono (hD _ _ _ _ _ _ _ hd) fun e' u'' aw' hh => ?_
        obtain ⟨rfl, rfl, rfl⟩ := hh
        exact ih h
      · rename_i ch u' M2 hd
        refine ACallsD.mono (hD _ _ _ _ _ _ _ hd) fun e' u'' aw' hh => ?_
        obtain ⟨rfl, rfl, rfl⟩ := hh
        exact ih h
      · cases h
    · cases h
noncomputable def sil (n : Nat) : List Item → List Item := Nat.rec (motive := fun _ => List Item → List Item) (fun l => l) (fun _ ih l => match l with
  | .code (.seq x y) :: k => ih (.code x :: .code y :: k)
  | .code (.block id c) :: k => ih (.code c :: .inBlock id :: k)
  | .code (.scope c) :: k => ih (.code c :: .inScope c :: k)
  | .code .skip :: k => ih k
  | l => l) n
theorem sil_spec : ∀ (n : Nat) (l : List Item), Silent l (sil n l)
  | 0, l => .refl l
  | n + 1, l => by
    have ih := sil_spec n
    show Silent l (match l with
      | .code (.seq x y) :: k => sil n (.code x :: .code y :: k)
      | .code (.block id c) :: k => sil n (.code c :: .inBlock id :: k)
      | .code (.scope c) :: k => sil n (.code c :: .inScope c :: k)
      | .code .skip :: k => sil n k
      | l => l)
    split
    · exact .seq (ih _)
    · exact .block (ih _)
    · exact .scope (ih _)
    · exact .skip (ih _)
    · exact .refl _
noncomputable def endD (P : Program) (fn : Func) (u : ADone) (x : SR) : Option (AEnd × ADone × Mem) := match x with
  | .fin .ret ρ [] M => (match resF P fn (slot ρ) M with
    | some v => some (.returned v, u, M)
    | none => none)
  | .fin (.panic ch) _ [] M => some (.panicked ch, u, M)
  | _ => none
noncomputable def callD (P : Program) (X : Exts) (C : Caller) (tab : Nat → Tab) (n : Nat) : CallerD := fun f args u M => match P.funcs[f]? with
  | none => none
  | some fn => (match fn.body with
    | none => none
    | some c => bif Nat.ble args.length fn.ntmps then (match sil 40 [.code c] with
      | .code (.region id ops false) :: k => (match ops with
        | ⟨o :: rest⟩ => (match o with
          | ⟨dst, .call ⟨.builtin .recover, ⟨[]⟩, _⟩, _, _, _, none⟩ => bif dstsOk fn.ntmps ops then
              doV (recovers u).1 fun v => doT (putS (T.ofL args 0 .leaf) dst v) fun ρ => (match ops1 P X C ops rest ρ [] M with
                | .norm ρ ds M => endD P fn (recovers u).2 (iter (step1 P X C fn.ntmps (tab f) (rSlots fn)) n k ρ ds M)
                | .pan ch ρ ds M => endD P fn (recovers u).2 (.fin (.panic ch) ρ ds M)
                | .bad => none) else none
          | _ => endD P fn u (iter (step1 P X C fn.ntmps (tab f) (rSlots fn)) n [.code c] (T.ofL args 0 .leaf) [] M))
        | ⟨[]⟩ => endD P fn u (iter (step1 P X C fn.ntmps (tab f) (rSlots fn)) n [.code c] (T.ofL args 0 .leaf) [] M))
      | _ => endD P fn u (iter (step1 P X C fn.ntmps (tab f) (rSlots fn)) n [.code c] (T.ofL args 0 .leaf) [] M)) else none)
theorem slot_init (args : List Value) : slot (T.ofL args 0 .leaf) = Env.init args := by
  funext t
  simp only [slot, T.get_ofL, Env.init]
  by_cases h : t < args.length
  · rw [if_pos ⟨Nat.zero_le _, by omega⟩]
    simp [List.getD, h]
  · rw [if_neg (by omega)]
    simp [List.getD, List.getElem?_eq_none (Nat.le_of_not_lt h), T.get_leaf]
theorem endD_spec {P : Program} {fn : Func} {N : Nat} {u : ADone} {x : SR} {e : AEnd} {u' : ADone} {M' : Mem} (h : endD P fn u x = some (e, u', M')) : u' = u ∧
    x.holds P N (rSlots fn) (fun d ρ ds aw' => ds = [] ∧ match d with
      | .ret => ∃ v, ARes P fn N ρ aw' v ∧ (AEnd.returned v = e ∧ aw' = M'.abs)
      | .panic ch => AEnd.panicked ch = e ∧ aw' = M'.abs) := by
  unfold endD at h
  split at h
  · split at h
    · rename_i v hv
      simp only [Option.some.injEq, Prod.mk.injEq] at h
      obtain ⟨rfl, rfl, rfl⟩ := h
      exact ⟨rfl, fun ρ' hr => ⟨rfl, v, resF_spec hv hr, rfl, rfl⟩⟩
    · cases h
  · simp only [Option.some.injEq, Prod.mk.injEq] at h
    obtain ⟨rfl, rfl, rfl⟩ := h
    exact ⟨rfl, fun ρ' hr => ⟨rfl, rfl, rfl⟩⟩
  · cases h
theorem callD_spec {P : Program} {X : Exts} {C : Caller} {tab : Nat → Tab} {n : Nat} (hX : ExtOk P X) (hC : CS P C) (hm : P.follows .mixedOrders = true) : CDS P (callD P X C tab n) := by
  intro f args u M e u' M' h
  unfold callD at h
  split at h
  · cases h
  rename_i fn hf
  split at h
  · cases h
  rename_i c hb
  rw [cond_some] at h
  obtain ⟨hl, h⟩ := h
  have hl := Nat.le_of_ble_eq_true hl
  have plainD : endD P fn u (iter (step1 P X C fn.ntmps (tab f) (rSlots fn)) n [.code c] (T.ofL args 0 .leaf) [] M) = some (e, u', M') → ACallsD P f args u M.abs fun e' u'' aw' => e' = e ∧ u'' = u' ∧ aw' = M'.abs := by
    intro h
    obtain ⟨rfl, hx⟩ := endD_spec (N := fn.ntmps) h
    refine acallsD_of_ago hf hb rfl hl ?_
    have := iter_spec (fun todo ρ ds M h => step1_spec hX hC hm h) n _ _ _ _ hx
    rw [slot_init] at this
    refine ago_mono ?_ this
    rintro d ρ ds aw ⟨h1, h2⟩
    refine ⟨h1, ?_⟩
    cases d with
    | ret => obtain ⟨v, k1, k2, k3⟩ := h2; exact ⟨v, k1, k2, rfl, k3⟩
    | panic ch => exact ⟨h2.1, rfl, h2.2⟩
  split at h
  · rename_i id ops k hsil
    split at h
    · rename_i o rest
      split at h
      · rename_i dst at' ty pos after
        rw [cond_some] at h
        obtain ⟨hN, h⟩ := h
        rw [doV_eq, doT_eq] at h
        have hs := sil_spec 40 [.code c]
        rw [hsil] at hs
        have hu : ∀ {x : SR}, endD P fn (recovers u).2 x = some (e, u', M') → u' = (recovers u).2 := fun h => (endD_spec (N := fn.ntmps) h).1
        refine acallsD_recover (o := ⟨dst, .call ⟨.builtin .recover, ⟨[]⟩, at'⟩, ty, pos, after, none⟩) (rest := List.range' 1 rest.length) hf hb rfl hl hs ?_ rfl rfl rfl ?_ ?_
        · rw [List.range_eq_range']
          simp only [List.size_toArray, List.length_cons]
          rfl
        · intro d hd
          exact dstsOk_get (N := fn.ntmps) hN (j := 0) (by simpa using hd)
        · refine ago_inRegion ?_
          rw [← slot_init, ← slot_put]
          refine ops1_spec hX hC hN rest 1 _ _ _ rfl ?_
          split at h
          · rename_i ρ2 ds2 M2 hx
            rw [hx]
            obtain ⟨rfl, hh⟩ := endD_spec (N := fn.ntmps) h
            have := iter_spec (fun todo ρ ds M h => step1_spec hX hC hm h) n _ _ _ _ hh
            refine ago_mono ?_ this
            rintro d ρ ds aw ⟨h1, h2⟩
            refine ⟨h1, ?_⟩
            cases d with
            | ret => obtain ⟨v, k1, k2, k3⟩ := h2; exact ⟨v, k1, k2, rfl, k3⟩
            | panic ch => exact ⟨h2.1, rfl, h2.2⟩
          · rename_i ch ρ2 ds2 M2 hx
            rw [hx]
            obtain ⟨rfl, hh⟩ := endD_spec (N := fn.ntmps) h
            obtain ⟨h1, h2⟩ := hh _ fun _ _ => rfl
            exact ⟨h1, h2.1, rfl, h2.2⟩
          · cases h
      · exact plainD h
    · exact plainD h
  · exact plainD h
where
  ago_mono {P : Program} {N : Nat} {todo : List Item} {ρ : Env} {ds : List Deferred} {aw : AW} {R R' : ADone → Env → List Deferred → AW → Prop} (hr : ∀ d ρ ds aw, R d ρ ds aw → R' d ρ ds aw) (h : AGo P N todo ρ ds aw R) : AGo P N todo ρ ds aw R' := by
    intro base w0 s a w b cs hst
    obtain ⟨m, t', a', w', h1, s', d, ρ', ds', aw', h2, h3, h4, h5⟩ := h base w0 s a w b cs hst
    exact ⟨m, t', a', w', h1, s', d, ρ', ds', aw', h2, h3, h4, hr _ _ _ _ h5⟩
noncomputable def callOne (P : Program) (X : Exts) (tab : Nat → Tab) (n : Nat) (C : Caller) : Caller := fun f args M => match P.funcs[f]? with
  | none => none
  | some fn => (match fn.body with
    | none => none
    | some c => bif Nat.ble args.length fn.ntmps then (match iter (step1 P X C fn.ntmps (tab f) (rSlots fn)) n [.code c] (T.ofL args 0 .leaf) [] M with
      | .fin d ρ ds M => leave P fn (callD P X C tab n) ρ ds d M
      | _ => none) else none)
theorem callOne_spec {P : Program} {X : Exts} {C : Caller} {tab : Nat → Tab} {n : Nat} (hX : ExtOk P X) (hC : CS P C) (hm : P.follows .mixedOrders = true) : CS P (callOne P X tab n C) := by
  intro f args M e M' h
  unfold callOne at h
  split at h
  · cases h
  rename_i fn hf
  split at h
  · cases h
  rename_i c hb
  rw [cond_some] at h
  obtain ⟨hl, h⟩ := h
  have hl := Nat.le_of_ble_eq_true hl
  split at h
  · rename_i d ρ ds M2 hx
    refine acalls_of_ago_d hf hb rfl hl ?_
    rw [← slot_init]
    refine iter_spec (rs := rSlots fn) (f := step1 P X C fn.ntmps (tab f) (rSlots fn)) (fun todo ρ ds M h => step1_spec hX hC hm h) n _ _ _ _ ?_
    rw [hx]
    intro ρ' hr
    exact leave_spec (callD_spec hX hC hm) hr h
  · cases h
noncomputable def callN (P : Program) (X : Exts) (tab : Nat → Tab) (n : Nat) (d : Nat) : Caller := Nat.rec (motive := fun _ => Caller) (fun _ _ _ => none) (fun _ ih => callOne P X tab n ih) d
theorem callN_spec {P : Program} {X : Exts} {tab : Nat → Tab} {n : Nat} (hX : ExtOk P X) (hm : P.follows .mixedOrders = true) : ∀ d, CS P (callN P X tab n d)
  | 0 => fun _ _ _ _ _ h => by cases h
  | d + 1 => callOne_spec hX (callN_spec hX hm d) hm
end Go.Ri
set_option linter.unusedSimpArgs false
set_option linter.unusedVariables false
set_option linter.unusedSectionVars false
namespace Go.Ri
open Go Go.Am Go.RowKit
variable [SymE]
variable [FT] [FTok]
def dCells {H : Type} : Nat → DataW H → Option (List Value)
  | 0, _ => none
  | n + 1, d => match d with
    | .lit (.int k m) => some [.int k m]
    | .lit (.string l) => some [.string ⟨⟨l⟩⟩]
    | .lit (.bool b) => some [.bool b]
    | .agg ds => all n ds
    | _ => none
where
  all {H : Type} (n : Nat) : List (DataW H) → Option (List Value)
  | [] => some []
  | d :: r => match dCells n d, all n r with
    | some a, some b => some (a ++ b)
    | _, _ => none
end Go.Ri
set_option linter.unusedSimpArgs false
set_option linter.unusedVariables false
set_option linter.unusedSectionVars false
namespace Go.Ri
open Go Go.Am Go.RowKit
variable [SymE]
variable [FT] [FTok]
theorem _root_.Go.Am.Rel.later {G : Nat} {base : Nat → Prop} {w0 w w' : World} {s : Inj} {aw : AW} (h : Rel G base w0 s aw w) (hb : Keep (· < w.heap.size) w w') : Rel G base w0 s aw w' where
  fresh := h.fresh
  mfresh := h.mfresh
  blk b B hB := by
    obtain ⟨e, cs, fz, h1, h2, h3, h4⟩ := h.blk b B hB
    refine ⟨e, cs, fz, h1, h2, ?_, h4⟩
    rw [hb.block _ (Array.getElem?_eq_some_iff.1 h3).1]
    exact h3
  sep := h.sep
  hbase := fun k hk => Nat.lt_of_lt_of_le (h.hbase k hk) hb.size
  glob := h.glob
  below := h.below.trans (hb.mono h.hbase)
theorem plain_ER {s t : Inj} {v : Value} {e : Ending} (hp : plain v = true) (h : ER s (.returned v) e) : ER t (.returned v) e := by
  cases h with
  | returned h =>
    have := VR.eq_of_plain h hp
    subst this
    exact .returned (VR.ofPlain hp)
end Go.Ri
namespace Go.Ri
open Go Go.Am Go.RowKit
variable [SymE]
end Go.Ri
set_option linter.unusedSimpArgs false
set_option linter.unusedVariables false
set_option linter.unusedSectionVars false
namespace Go.Ri
open Go Go.Am Go.RowKit
variable [SymE]
variable [FT] [FTok]
def rnV (ren : Nat → Nat) : Value → Value
  | .pointer (some ⟨b, o, q⟩) => .pointer (some ⟨ren b, o, q⟩)
  | .slice (some ⟨b, o, q⟩) l c => .slice (some ⟨ren b, o, q⟩) l c
  | v => v
def okV (n : Nat) : Value → Bool
  | .pointer (some ⟨b, _, none⟩) => Nat.blt b n
  | .slice (some ⟨b, _, none⟩) _ _ => Nat.blt b n
  | .pointer (some ⟨_, _, some _⟩) => false
  | .slice (some ⟨_, _, some _⟩) _ _ => false
  | v => plain v
theorem vr_ren {s : Inj} {ren : Nat → Nat} {n : Nat} {v v' : Value} (h : okV n v = true) (hv : VR s (rnV ren v) v') : VR (fun b => if b < n then s (ren b) else none) v v' := by
  have pl : ∀ {v : Value}, plain v = true → VR s v v' → VR (fun b => if b < n then s (ren b) else none) v v' := fun hp hv => by
    have := VR.eq_of_plain hv hp
    subst this
    exact VR.ofPlain hp
  unfold okV at h
  split at h
  · rename_i b o
    rw [Nat.blt_eq] at h
    simp only [rnV] at hv
    cases hv with
    | ptr he => exact .ptr (by simp only [if_pos h]; exact he)
  · rename_i b o l c
    rw [Nat.blt_eq] at h
    simp only [rnV] at hv
    cases hv with
    | slice hl hc hh => exact .slice hl hc fun hp => by simp only [if_pos h]; exact hh hp
  · cases h
  · cases h
  · rename_i h1 h2 h3 h4
    have e : rnV ren v = v := by
      unfold rnV
      split
      · rename_i b o q
        cases q with
        | none => exact absurd rfl (h1 b o)
        | some q => exact absurd rfl (h3 b o q)
      · rename_i b o q l c
        cases q with
        | none => exact absurd rfl (h2 b o l c)
        | some q => exact absurd rfl (h4 b o q l c)
      · rfl
    rw [e] at hv
    exact pl h hv
noncomputable def memR (n : Nat) (l : List (Nat × List Value × TypeId × Nat)) : Mem := ⟨List.rec (motive := fun _ => T (Option RB)) .leaf (fun p _ ih => T.dn ih fun t => T.set (some ⟨T.ofL p.2.1 0 .leaf, p.2.1.length, p.2.2.1, p.2.2.2, false⟩) t p.1) l, n⟩
theorem memR_abs {n : Nat} : ∀ (l : List (Nat × List Value × TypeId × Nat)) (b : Nat) (B : Blk), (memR n l).abs.m b = some B → ∃ p ∈ l, p.1 = b ∧ B = ⟨p.2.1, p.2.2.1, p.2.2.2, false, 0⟩
  | [], b, B, h => by
    have : (memR n []).abs.m b = none := by simp [Mem.abs, Mem.at, memR, T.get_leaf]
    rw [this] at h; cases h
  | p :: l, b, B, h => by
    have hbl : (memR n (p :: l)).bl = T.set (some ⟨T.ofL p.2.1 0 .leaf, p.2.1.length, p.2.2.1, p.2.2.2, false⟩) (memR n l).bl p.1 := by
      rfl
    simp only [Mem.abs, Mem.at, hbl, T.get_set] at h
    by_cases hb : b = p.1
    · rw [if_pos hb] at h
      simp only [Option.map_some, Option.some.injEq] at h
      refine ⟨p, by simp, hb.symm, ?_⟩
      rw [← h]
      simp only [RB.abs, Blk.mk.injEq, and_true]
      apply List.ext_getElem?
      intro k
      simp only [List.getElem?_map]
      rcases Nat.lt_or_ge k p.2.1.length with hk | hk
      · rw [List.getElem?_range hk]
        simp only [Option.map_some, T.get_ofL]
        rw [if_pos (by omega), Nat.sub_zero, List.getElem?_eq_getElem hk]; rfl
      · rw [List.getElem?_eq_none (by simp; omega), List.getElem?_eq_none hk]; rfl
    · rw [if_neg hb] at h
      obtain ⟨q, hq, h1, h2⟩ := memR_abs l b B h
      exact ⟨q, by simp [hq], h1, h2⟩
end Go.Ri
set_option linter.unusedSimpArgs false
set_option linter.unusedVariables false
set_option linter.unusedSectionVars false
namespace Go.Ri
open Go Go.Am Go.RowKit
def retW : Option (AEnd × Mem) → Bool
  | some (.returned (.bool b), _) => b
  | _ => false
theorem retW_some {x : Option (AEnd × Mem)} (h : retW x = true) : ∃ M', x = some (.returned (.bool true), M') := by
  unfold retW at h
  split at h
  · subst h; exact ⟨_, rfl⟩
  · cases h
@[reducible] def symW : SymE := ⟨fun _ => .int .i64 0, fun _ => .inl ⟨_, _, rfl⟩⟩
@[reducible] def ftW : FT := ⟨fun _ _ _ => none, fun _ _ => none, fun _ _ => none, fun _ => none⟩
theorem ftWok [SymE] : @FTok _ ftW := @FTok.mk _ ftW (fun _ _ _ _ h => by cases h) (fun _ _ _ h => by cases h) (fun _ _ _ h => by cases h) (fun _ _ h => by cases h)
variable [SymE]
variable [FT] [FTok]
def rnX (ren : Nat → Nat) : Value → Value
  | .map (some i) => SymE.E i
  | v => rnV ren v
def okX (n : Nat) : Value → Bool
  | .map (some _) => true
  | v => okV n v
theorem vr_renX {s : Inj} {ren : Nat → Nat} {n : Nat} {v v' : Value} (h : okX n v = true) (hv : VR s (rnX ren v) v') : VR (fun b => if b < n then s (ren b) else none) v v' := by
  unfold okX at h
  split at h
  · rename_i i
    simp only [rnX] at hv
    have e : v' = SymE.E i := by
      rcases SymE.leaf i with ⟨k, m, e⟩ | ⟨x, e⟩ <;> rw [e] at hv ⊢ <;> cases hv <;> rfl
    subst e
    exact .sym i
  · rename_i h1
    have e : rnX ren v = rnV ren v := by
      unfold rnX
      split
      · rename_i i; exact absurd rfl (h1 i)
      · rfl
    rw [e] at hv
    exact vr_ren h hv
theorem vrs_renX {s : Inj} {ren : Nat → Nat} {n : Nat} : ∀ {l l' : List Value}, l.all (okX n) = true → VRs s (l.map (rnX ren)) l' → VRs (fun b => if b < n then s (ren b) else none) l l'
  | [], _, _, h => by cases h; exact .nil
  | x :: l, _, ha, h => by
    simp only [List.all_cons, Bool.and_eq_true] at ha
    simp only [List.map_cons] at h
    cases h with
    | cons h1 t => exact .cons (vr_renX ha.1 h1) (vrs_renX ha.2 t)
structure UnderX (G : Nat) (ren : Nat → Nat) (aw0 aw : AW) : Prop where
  le : G ≤ aw0.next
  gl : ∀ g, g < G → ren g = g
  no : ∀ b, aw0.next ≤ b → aw0.m b = none
  blk : ∀ b B, aw0.m b = some B → B.rw = false ∧ ∃ B', aw.m (ren b) = some B' ∧ B'.elem = B.elem ∧ B'.esz = B.esz ∧ (B.esz = 0 → B'.cells.length = B.cells.length) ∧
    ∀ (i : Nat) (v : Value), B.cells[i]? = some v → okX aw0.next v = true ∧ B'.cells[i]? = some (rnX ren v)
theorem acalls_renX {P : Program} {f : FuncId} {args : List Value} {aw0 aw aw1 : AW} {v : Value} {ren : Nat → Nat} (hu : UnderX P.globals.size ren aw0 aw) (ha : args.all (okX aw0.next) = true) (hv : plain v = true)
    (h : ACalls P f args aw0 fun e aw' => e = .returned v ∧ aw' = aw1) : ACalls P f (args.map (rnX ren)) aw fun e aw' => e = .returned v ∧ aw' = aw := by
  intro base w0 s args' w hr hargs
  have r0 : Rel P.globals.size (· < w.heap.size) w (fun b => if b < aw0.next then s (ren b) else none) aw0 w := by
    refine ⟨?_, ?_, ?_, ?_, (fun k hk => hk), ?_, Keep.refl _ _⟩
    · intro b hb
      simp only [if_neg (show ¬ b < aw0.next by omega)]
    · exact hu.no
    · intro b B hB
      have hlt : b < aw0.next := by
        rcases Nat.lt_or_ge b aw0.next with h | h
        · exact h
        · rw [hu.no b h] at hB; cases hB
      obtain ⟨h3, B', k1, k2, k3, k4, k5⟩ := hu.blk b B hB
      obtain ⟨e, cs, fz, g1, g2, g3, g4, g5, g6, g7⟩ := hr.blk (ren b) B' k1
      have hlen : B.cells.length ≤ B'.cells.length := by
        rcases Nat.lt_or_ge B'.cells.length B.cells.length with h | h
        · have hx := (k5 B'.cells.length _ (List.getElem?_eq_getElem h)).2
          rw [List.getElem?_eq_none (Nat.le_refl _)] at hx; cases hx
        · exact h
      refine ⟨e, cs, fz, by simp only [if_pos hlt]; exact g1, ⟨g2.1.trans k3, (fun h => absurd (h3.symm.trans h) (by decide)), fun h0 => ?_⟩, k2 ▸ g3, g4, by omega, fun i u hi => ?_, (fun h => absurd (h3.symm.trans h) (by decide))⟩
      · obtain ⟨q1, q2⟩ := g2.2.2 (k3.trans h0)
        exact ⟨q1, by rw [q2, k4 h0]⟩
      · obtain ⟨j1, j2⟩ := k5 i u hi
        obtain ⟨u', l1, l2⟩ := g6 i _ j2
        exact ⟨u', l1, vr_renX j1 l2⟩
    · intro b1 b2 B1 B2 e1 e2 _ hB1 _ _ _ hrw
      rw [(hu.blk b1 B1 hB1).1] at hrw; cases hrw
    · intro g hg
      obtain ⟨e, h1, h2⟩ := hr.glob g hg
      exact ⟨e, by simp only [if_pos (Nat.lt_of_lt_of_le hg hu.le), hu.gl g hg]; exact h1, h2⟩
  refine (h _ _ _ args' w r0 (vrs_renX ha hargs)).mono ?_
  rintro e w' ⟨s', ae, aw', _, hrel, her, hq, _⟩
  subst hq
  exact ⟨s, .returned v, aw, Inj.le_refl s, hr.later hrel.below, plain_ER hv her, rfl, rfl⟩
structure AsX (n : Nat) (ren : Nat → Nat) (aw : AW) (p : Nat × List Value × TypeId × Nat) : Prop where
  lt : p.1 < n
  ok : p.2.1.all (okX n) = true
  blk : ∃ js rw fz, aw.m (ren p.1) = some ⟨p.2.1.map (rnX ren) ++ js, p.2.2.1, p.2.2.2, rw, fz⟩ ∧ (p.2.2.2 = 0 → js = [])
theorem run_renX {P : Program} {X : Exts} {tab : Nat → Tab} {n d nx : Nat} {l : List (Nat × List Value × TypeId × Nat)} {ren : Nat → Nat} (hX : ExtOk P X) (hm : P.follows .mixedOrders = true) {f : FuncId} {args args' : List Value} {M' : Mem} {v : Value}
    (hrun : callN P X tab n d f args (memR nx l) = some (.returned v, M')) (hG : P.globals.size ≤ nx) (hren : ∀ g, g < P.globals.size → ren g = g) {aw : AW} (hl : ∀ p ∈ l, AsX nx ren aw p)
    (ha : args.all (okX nx) = true) (ha' : args.map (rnX ren) = args') (hv : plain v = true) {α : Type} {sh : α → Value} {r : α} (hs : v = sh r) {Q : α → AW → Prop} {E : List PanicEntry → AW → Prop} (hQ : Q r aw) : CallP P f args' aw sh Q E := by
  subst ha'
  have hu : UnderX P.globals.size ren (memR nx l).abs aw := by
    refine ⟨hG, hren, fun b hb => ?_, fun b B hB => ?_⟩
    · cases hB : (memR nx l).abs.m b with
      | none => rfl
      | some B =>
        obtain ⟨p, hp, rfl, _⟩ := memR_abs l b B hB
        have := (hl p hp).lt
        have hb' : nx ≤ p.1 := hb
        omega
    · obtain ⟨p, hp, rfl, rfl⟩ := memR_abs l b B hB
      obtain ⟨h1, h2, js, rw, fz, h3, h4⟩ := hl p hp
      refine ⟨rfl, _, h3, rfl, rfl, fun h0 => ?_, fun i u hi => ?_⟩
      · simp [h4 h0]
      · have hlt : i < p.2.1.length := (List.getElem?_eq_some_iff.1 hi).1
        refine ⟨List.all_eq_true.1 h2 u (List.mem_of_getElem? hi), ?_⟩
        show (p.2.1.map (rnX ren) ++ js)[i]? = _
        rw [List.getElem?_append_left (by simpa using hlt), List.getElem?_map, hi]
        rfl
  refine ACalls.mono (acalls_renX hu ha hv (callN_spec hX hm d f args (memR nx l) _ _ hrun)) fun e aw' he => ?_
  obtain ⟨rfl, rfl⟩ := he
  exact ⟨r, hs, hQ⟩
end Go.Ri
set_option linter.unusedSimpArgs false
set_option linter.unusedVariables false
set_option linter.unusedSectionVars false
namespace Go.Ri
open Go Go.Am Go.RowKit
noncomputable def cellsD {H : Type} (P : Program) : Nat → TypeId → DataW H → Option (List Value)
  | 0, _, _ => none
  | m + 1, t, d => match P.underlying t, d with
    | some .bool, .lit (.bool b) => some [.bool b]
    | some (.int k), .lit (.int k' n) => if k' = k then some [.int k n] else none
    | some .string, .lit (.string l) => some [.string ⟨⟨l⟩⟩]
    | some (.array n e), .agg ds => if ds.length = n ∧ P.cellsOf t = n * P.cellsOf e then all m e ds else none
    | _, _ => none
where
  all {H : Type} (m : Nat) (e : TypeId) : List (DataW H) → Option (List Value)
  | [] => some []
  | d :: r => match cellsD P m e d, all m e r with
    | some a, some b => if a.length = P.cellsOf e then some (a ++ b) else none
    | _, _ => none
theorem cellsD_spec {H : Type} {enc : TypeId × Value → H} {P : Program} {w : World} {base : Nat} {spare : Nat → Bool} {held : Bool} : ∀ {m fuel : Nat} {t : TypeId} {d : DataW H} {l cs : List Value} {p : List MemPlace}, cellsD P m t d = some l →
    DataW.trod enc P w base spare held fuel t cs = some (d, p) → cs = l
  | 0, _, _, _, _, _, _, h, _ => by simp [cellsD] at h
  | m + 1, fuel, t, d, l, cs, p, h, hd => by
    unfold cellsD at h
    split at h
    · rename_i b hu
      simp only [Option.some.injEq] at h; subst h
      obtain ⟨b', rfl, e⟩ := DataW.trod_bool hu hd
      simp only [Prod.mk.injEq, DataW.lit.injEq, Lit.bool.injEq] at e
      rw [e.1]
    · rename_i k k' n hu
      split at h
      · rename_i hk; subst hk
        simp only [Option.some.injEq] at h; subst h
        obtain ⟨b', rfl, e, _⟩ := DataW.trod_int hu hd
        simp only [Prod.mk.injEq, DataW.lit.injEq, Lit.int.injEq, true_and] at e
        rw [e.1]
      · cases h
    · rename_i s hu
      simp only [Option.some.injEq] at h; subst h
      obtain ⟨b', rfl, e, _⟩ := DataW.trod_string hu hd
      simp only [Prod.mk.injEq, DataW.lit.injEq, Lit.string.injEq] at e
      rw [e.1]
    · rename_i n e ds hu
      split at h
      · rename_i hn
        obtain ⟨hn1, hn2⟩ := hn
        obtain ⟨xs, q, rfl, hx, hlen, hxn, hel⟩ := DataW.trod_array hu hd
        simp only [Prod.mk.injEq, DataW.agg.injEq] at hx
        have key : ∀ (ds : List (DataW H)) (cs l : List Value), (∀ i d, ds[i]? = some d → ∃ p, DataW.trod enc P w base spare held q e ((cs.drop (i * P.cellsOf e)).take (P.cellsOf e)) = some (d, p)) → cs.length = ds.length * P.cellsOf e →
            cellsD.all P m e ds = some l → cs = l := by
          intro ds
          induction ds with
          | nil =>
            intro cs l _ hl ha
            simp only [cellsD.all, Option.some.injEq] at ha
            simp at hl
            rw [← ha, hl]
          | cons d r ih =>
            intro cs l hh hl ha
            rw [cellsD.all] at ha
            split at ha
            · rename_i a b h1 h2
              split at ha
              · rename_i hal
                simp only [Option.some.injEq] at ha
                subst ha
                obtain ⟨p0, e0⟩ := hh 0 d rfl
                simp only [Nat.zero_mul, List.drop_zero] at e0
                have ea := cellsD_spec h1 e0
                have eb := ih (cs.drop (P.cellsOf e)) b (fun i d' hd' => by
                  obtain ⟨p', e'⟩ := hh (i + 1) d' (by simpa using hd')
                  rw [Nat.add_mul, Nat.one_mul, Nat.add_comm, ← List.drop_drop] at e'
                  exact ⟨p', e'⟩) (by rw [List.length_drop, hl, List.length_cons, Nat.add_mul]; omega) h2
                rw [← ea, ← eb, List.take_append_drop]
              · cases ha
            · cases ha
        refine key ds cs l (fun i d' hd' => ?_) (by rw [hlen, hn2, hn1]) h
        have hi : i < n := by
          have := (List.getElem?_eq_some_iff.1 hd').1
          omega
        have := hel i hi
        rw [hx.1, List.getElem?_map] at hd'
        cases hxi : xs[i]? with
        | none => rw [hxi] at hd'; cases hd'
        | some x =>
          rw [hxi] at hd' this
          simp only [Option.map_some, Option.some.injEq] at hd'
          obtain ⟨x1, x2⟩ := x
          simp only at hd'
          subst hd'
          exact ⟨x2, this⟩
      · cases h
    · cases h
variable [SymE]
theorem laid_cells {P : Program} {W : World} {L : List (String × DataW Unit)} {ps : List MemPlace} (hL : DataW.LaidVars P W L ps) {n : String} {d : DataW Unit} (hm : (n, d) ∈ L) {g t m : Nat} {cells : List Value}
    (hg : P.globalNamed n = some g) (ht : (P.globals[g]?).map (·.type) = some t) (hc : cellsD P m t d = some cells) : ∃ t1 cs fz, W.heap[g]? = some (.cells cs t1 fz) ∧ cs.toList = cells := by
  obtain ⟨g', t', cs, fuel, p, h1, h2, h3, h4⟩ := laid_get hL n d hm
  obtain rfl := Option.some.inj (hg.symm.trans h1)
  obtain rfl := Option.some.inj (ht.symm.trans h2)
  obtain ⟨t1, fz, h5⟩ := var_heap hg h3
  exact ⟨t1, cs, fz, h5, cellsD_spec hc h4⟩
structure Facts where
  bins : List (BinOp × Value × Value × Value) := []
  uns : List (UnOp × Value × Value) := []
  convs : List (IntKind × Value × Value) := []
  lens : List (Value × Value) := []
noncomputable def lookB (l : List (BinOp × Value × Value × Value)) (op : BinOp) (u w : Value) : Option Value := List.rec (motive := fun _ => Option Value) none
  (fun e _ ih => bif decide (e.1 = op) && (vEq 2 e.2.1 u && vEq 2 e.2.2.1 w) then some e.2.2.2 else ih) l
noncomputable def lookU (l : List (UnOp × Value × Value)) (op : UnOp) (u : Value) : Option Value := List.rec (motive := fun _ => Option Value) none
  (fun e _ ih => bif decide (e.1 = op) && vEq 2 e.2.1 u then some e.2.2 else ih) l
noncomputable def lookC (l : List (IntKind × Value × Value)) (j : IntKind) (u : Value) : Option Value := List.rec (motive := fun _ => Option Value) none
  (fun e _ ih => bif decide (e.1 = j) && vEq 2 e.2.1 u then some e.2.2 else ih) l
noncomputable def lookL (l : List (Value × Value)) (u : Value) : Option Value := List.rec (motive := fun _ => Option Value) none
  (fun e _ ih => bif vEq 2 e.1 u then some e.2 else ih) l
@[reducible] noncomputable def ftOf (F : Facts) : FT := ⟨lookB F.bins, lookU F.uns, lookC F.convs, lookL F.lens⟩
theorem lookB_spec {op : BinOp} {u w v : Value} : ∀ {l : List (BinOp × Value × Value × Value)}, lookB l op u w = some v → (op, u, w, v) ∈ l
  | [], h => by cases h
  | (op', u', w', v') :: l, h => by
    have h : (bif decide (op' = op) && (vEq 2 u' u && vEq 2 w' w) then some v' else lookB l op u w) = some v := h
    cases hb : decide (op' = op) && (vEq 2 u' u && vEq 2 w' w) with
    | true =>
      rw [hb] at h
      simp only [cond_true, Option.some.injEq] at h
      simp only [Bool.and_eq_true, decide_eq_true_eq] at hb
      rw [hb.1, vEq_spec _ _ _ hb.2.1, vEq_spec _ _ _ hb.2.2, h]
      exact List.mem_cons_self ..
    | false =>
      rw [hb] at h
      exact List.mem_cons_of_mem _ (lookB_spec h)
theorem lookU_spec {op : UnOp} {u v : Value} : ∀ {l : List (UnOp × Value × Value)}, lookU l op u = some v → (op, u, v) ∈ l
  | [], h => by cases h
  | (op', u', v') :: l, h => by
    have h : (bif decide (op' = op) && vEq 2 u' u then some v' else lookU l op u) = some v := h
    cases hb : decide (op' = op) && vEq 2 u' u with
    | true =>
      rw [hb] at h
      simp only [cond_true, Option.some.injEq] at h
      simp only [Bool.and_eq_true, decide_eq_true_eq] at hb
      rw [hb.1, vEq_spec _ _ _ hb.2, h]
      exact List.mem_cons_self ..
    | false =>
      rw [hb] at h
      exact List.mem_cons_of_mem _ (lookU_spec h)
theorem lookC_spec {op : IntKind} {u v : Value} : ∀ {l : List (IntKind × Value × Value)}, lookC l op u = some v → (op, u, v) ∈ l
  | [], h => by cases h
  | (op', u', v') :: l, h => by
    have h : (bif decide (op' = op) && vEq 2 u' u then some v' else lookC l op u) = some v := h
    cases hb : decide (op' = op) && vEq 2 u' u with
    | true =>
      rw [hb] at h
      simp only [cond_true, Option.some.injEq] at h
      simp only [Bool.and_eq_true, decide_eq_true_eq] at hb
      rw [hb.1, vEq_spec _ _ _ hb.2, h]
      exact List.mem_cons_self ..
    | false =>
      rw [hb] at h
      exact List.mem_cons_of_mem _ (lookC_spec h)
theorem lookL_spec {u v : Value} : ∀ {l : List (Value × Value)}, lookL l u = some v → (u, v) ∈ l
  | [], h => by cases h
  | (u', v') :: l, h => by
    have h : (bif vEq 2 u' u then some v' else lookL l u) = some v := h
    cases hb : vEq 2 u' u with
    | true =>
      rw [hb] at h
      simp only [cond_true, Option.some.injEq] at h
      rw [vEq_spec _ _ _ hb, h]
      exact List.mem_cons_self ..
    | false =>
      rw [hb] at h
      exact List.mem_cons_of_mem _ (lookL_spec h)
noncomputable def conv0 (j : IntKind) : Value → Option Value
  | .int _ m => some (.int j (fw j m))
  | _ => none
noncomputable def len0 : Value → Option Value
  | .string ⟨⟨l⟩⟩ => some (.int .i64 (.ofNat l.length))
  | _ => none
structure Facts.ok (F : Facts) : Prop where
  bins : ∀ e ∈ F.bins, bin0 e.1 (den e.2.1) (den e.2.2.1) = some (den e.2.2.2)
  uns : ∀ e ∈ F.uns, un0 e.1 (den e.2.1) = some (den e.2.2)
  convs : ∀ e ∈ F.convs, conv0 e.1 (den e.2.1) = some (den e.2.2)
  lens : ∀ e ∈ F.lens, len0 (den e.1) = some (den e.2)
theorem ftOk {F : Facts} (h : F.ok) : @FTok _ (ftOf F) := @FTok.mk _ (ftOf F)
  (fun op u w v hl => h.bins _ (lookB_spec hl))
  (fun op u v hl => h.uns _ (lookU_spec hl))
  (fun j u v hl => by
    have := h.convs _ (lookC_spec hl)
    simp only at this
    unfold conv0 at this
    split at this
    · rename_i k m he
      simp only [Option.some.injEq] at this
      exact ⟨k, m, he, this.symm⟩
    · cases this)
  (fun u v hl => by
    have := h.lens _ (lookL_spec hl)
    simp only at this
    unfold len0 at this
    split at this
    · rename_i l he
      simp only [Option.some.injEq] at this
      exact ⟨l, he, this.symm⟩
    · cases this)
end Go.Ri
set_option linter.unusedSimpArgs false
set_option linter.unusedVariables false
set_option linter.unusedSectionVars false
namespace Go.Am
open Go Go.RowKit
variable [SymE]
section
variable {P : Program} {ρ : Env} {aw aw' : AW} {o : Oper} {v : Value} {x y : Operand} {at' : Array TypeId} {sT xT el : TypeId} {size bytes l n c : Nat} {z sv : Value}
def OpW (P : Program) (o : Oper) (ρ : Env) (aw : AW) (R : Value → AW → Prop) : Prop :=
  ∀ (base : Nat → Prop) (w0 : World) (s : Inj) (f : Operand → Value) (w : World), Rel P.globals.size base w0 s aw w →
    (∀ x, okOpd P.globals.size x = true → VR s (ρ.eval x) (f x)) →
    ∃ v aw' n v' w' s', R v aw' ∧ (execOp f o).run P w = .ok n w' ∧ (n = .value v' ∨ (n = .skip ∧ v' = undef)) ∧ s.le s' ∧ Rel P.globals.size base w0 s' aw' w' ∧ VR s' v v'
theorem aops_valW {N : Nat} {ops : Array Oper} {i : Nat} {rest : List Nat} {ds : List Deferred} {Kn : Env → List Deferred → AW → Prop} {Kp : List PanicEntry → Env → List Deferred → AW → Prop} {R : Value → AW → Prop}
    (hN : dstsOk N ops = true) (ho : ops[i]? = some o) (hg : wants ops o ρ true) (hv : OpW P o ρ aw R)
    (hk : ∀ v aw', R v aw' → AOps P N ops rest (ρ.put o.dst v) ds aw' Kn Kp) : AOps P N ops (i :: rest) ρ ds aw Kn Kp := by
  intro base w0 s a w hst
  have hw := wants_spec hst.env hg (fun j t hj => by rw [hst.size]; exact dstsOk_get hN hj)
  simp only [wpOps, ho, hw, if_true]
  left
  obtain ⟨v, aw', n, v', w', s', hR, h1, h2, h3, h4, h5⟩ := hv base w s a.eval w hst.rel.re (fun x hx => hst.eval hx)
  have hd : ∀ d, o.dst = some d → d < N := fun d hd => dstsOk_get hN (j := i) (by simp [ho, hd])
  have := hk v aw' hR base w0 s' (a.put o.dst v') w' (hst.put h3 h4 hd h5)
  unfold Oper.wp
  rw [h1]
  rcases h2 with rfl | ⟨rfl, rfl⟩
  · exact wpOps_mono (fun e a w => QQ.mono h3) QQ.not_outgrown _ _ _ this
  · exact wpOps_mono (fun e a w => QQ.mono h3) QQ.not_outgrown _ _ _ this
theorem run_append_growsW (hat : at' = #[sT, xT]) (hu : P.underlying sT = some (.slice el)) (hsz : (P.info? el).map (·.size) = some size) (hby : (P.info? el).map (·.bytes) = some bytes) {k : IntKind} (hxu : P.underlying xT = some (.int k))
    (hz0 : (P.info? el).bind (·.zero) = some z) (hzs : z.cells.size = size) (hb0 : 0 < bytes) (hs0 : 0 < size) (hn0 : 0 < n) {kk : IntKind}
    {w : World} {a : Option Addr} {c' : Nat} {os' : List Value} (hfs : (Builtin.firstCells size l (.slice a l c')).run P w.drew = .ok os'.toArray w.drew)
    (hfit : c' < l + n) (hb : (2 * (l + n) + 768) * bytes ≤ 2 ^ 48) (ty : TypeId) :
    ∃ N, l + n ≤ N ∧ N < 2 ^ 63 ∧ (Builtin.append_ at' ty #[.slice a l c', .int kk (n : Int)]).run P w =
      .ok (.slice (some ⟨w.heap.size, 0, none⟩) (l + n) N) (w.drew.alloc (.cells (os'.toArray ++ (zeros z.cells.toList n).toArray ++ Builtin.zeroCells z.cells (N - (l + n))) el)) := by
  subst hat
  obtain ⟨inf, hinf⟩ : ∃ inf, P.info? el = some inf := by
    cases h : P.info? el with
    | none => simp [h] at hsz
    | some q => exact ⟨q, rfl⟩
  have hbb : inf.bytes = bytes := by simpa [hinf] using hby
  have hcap := nextcap_le (l + n) c' hfit
  have hcap2 : Builtin.nextslicecap (l + n) c' * bytes ≤ 2 ^ 48 := Nat.le_trans (Nat.mul_le_mul_right _ hcap) hb
  have hle : l + n ≤ 2 ^ 48 := by
    have h1 : (2 * (l + n) + 768) * 1 ≤ (2 * (l + n) + 768) * bytes := Nat.mul_le_mul_left _ hb0
    omega
  have hnb : n * bytes ≤ 2 ^ 48 := Nat.le_trans (Nat.mul_le_mul_right _ (by omega)) hb
  have hnb' : ¬ ((n : Int) * (bytes : Int) > 2 ^ 48) := by
    have : ((n * bytes : Nat) : Int) ≤ 2 ^ 48 := by exact_mod_cast hnb
    simp at this ⊢; omega
  have hw : IntKind.i64.wrap (n : Int) = n := IntWalk.i64_in _ (by omega)
  have hzc : Builtin.zeroCells z.cells n = (zeros z.cells.toList n).toArray := by
    apply Array.toList_inj.1
    show ((Array.range (n * z.cells.size)).map (z.cells[· % z.cells.size]!)).toList = _
    rw [madeCells_zeros (by omega) n]
  have hnz : ¬ n * size = 0 := by have := Nat.mul_pos hn0 hs0; omega
  refine ⟨(Question.appendCap (l + n) c' el).cut (w.tape w.drawn (.appendCap (l + n) c' el)), ?_, ?_, ?_⟩
  · simp only [Question.cut]; omega
  · simp only [Question.cut]
    have := Nat.mod_lt (w.tape w.drawn (.appendCap (l + n) c' el)) (show 0 < 2 ^ 63 - (l + n) by omega)
    omega
  · simp only [Builtin.append_, List.getElem?_toArray, List.getElem?_cons_zero, List.getElem?_cons_succ, Sem.run_bind, run_underlying hu, Result.andThen_ok, run_sizeOf' hsz, run_underlying hxu, Sem.run_pure,
      if_true, show (asInt (Value.int kk (n : Int)) : Sem Int).run P w = .ok (n : Int) w from rfl, hw]
    rw [if_neg (by omega)]
    simp only [Sem.run_bind, Sem.run_pure, Result.andThen_ok, run_typeInfo w hinf, hbb]
    rw [if_neg hnb']
    simp only [Sem.run_bind, Sem.run_pure, Result.andThen_ok, Int.toNat_natCast]
    rw [if_neg (by omega)]
    simp only [Sem.run_bind, run_typeInfo w hinf, Result.andThen_ok, hbb]
    rw [if_neg (by
      rintro ⟨h, _⟩
      have : IntKind.i64.max = 9223372036854775807 := rfl
      omega)]
    simp only [Sem.run_bind, run_typeInfo w hinf, Result.andThen_ok, hbb]
    rw [if_neg (by omega)]
    simp only [Sem.run_bind, run_choose, Question.forced, Bool.false_eq_true, if_false, Bool.not_true, Result.andThen_ok, World.drew_eq, run_typeInfo _ hinf, run_askRoom, hfs, if_neg hnz, run_zeroValue' hz0, hzc, run_newRow, Sem.run_pure, World.size_drew]
theorem opw_appendZ {k kk : IntKind} (hop : o.op = .call { callee := .builtin .append, args := #[x, y], argTypes := at' }) (hat : at' = #[sT, xT]) (hx : okOpd P.globals.size x = true) (hy : okOpd P.globals.size y = true)
    (hu : P.underlying sT = some (.slice el)) (hsz : (P.info? el).map (·.size) = some size) (hby : (P.info? el).map (·.bytes) = some bytes) (hxu : P.underlying xT = some (.int k))
    (hz0 : (P.info? el).bind (·.zero) = some z) (hzs : z.cells.size = size) (hp : plains z.cells.toList = true) (hb0 : 0 < bytes) (hn0 : 0 < n) {os : List Value}
    (h1 : ρ.eval x = sv) (h2 : ρ.eval y = .int kk (n : Int)) (hos : Src aw size sv l os) (hsl : ∃ q, sv = .slice q l c) (hc : c < UNK) (hfit : c < l + n) (hsz0 : 0 < size)
    (hb : (2 * (l + n) + 768) * bytes ≤ 2 ^ 48) : OpW P o ρ aw fun v aw' => ∃ N, l + n ≤ N ∧ N < 2 ^ 63 ∧ v = .slice (some ⟨aw.next, 0, none⟩) (l + n) N ∧ aw' = aw.alloc (os ++ (zeros z.cells.toList n ++ zeros z.cells.toList (N - (l + n)))) el size := by
  intro base w0 s f w hr hf
  obtain ⟨q, rfl⟩ := hsl
  have e1 := hf x hx; rw [h1] at e1
  have e2 := hf y hy; rw [h2] at e2
  obtain ⟨a, c', q1, q2, q3⟩ := e1.sliceAny
  have hcc := q3 hc
  subst hcc
  obtain ⟨_, os', t2, t3⟩ := hos.run (P := P) hr.drew (q1 ▸ e1)
  obtain ⟨N, hN, hN2, hrun⟩ := run_append_growsW (P := P) (a := a) (c' := c') (l := l) (n := n) (kk := kk) hat hu hsz hby hxu hz0 hzs hb0 hsz0 hn0 t3 hfit hb o.type
  have r2 : VRs s (zeros z.cells.toList n ++ zeros z.cells.toList (N - (l + n))) (zeros z.cells.toList n ++ zeros z.cells.toList (N - (l + n))) := (VRs.ofPlains (plains_zeros hp n)).append (VRs.ofPlains (plains_zeros hp _))
  obtain ⟨s', k1, k2, k3⟩ := alloc_append hr.drew t2 r2 el size hsz0 #[]
  have hzc : Builtin.zeroCells z.cells (N - (l + n)) = (zeros z.cells.toList (N - (l + n))).toArray := by
    apply Array.toList_inj.1
    show ((Array.range ((N - (l + n)) * z.cells.size)).map (z.cells[· % z.cells.size]!)).toList = _
    rw [madeCells_zeros (by omega) (N - (l + n))]
  have hcs : os'.toArray ++ (zeros z.cells.toList n).toArray ++ Builtin.zeroCells z.cells (N - (l + n)) = os'.toArray ++ (zeros z.cells.toList n ++ zeros z.cells.toList (N - (l + n))).toArray ++ #[] := by
    rw [hzc]
    apply Array.toList_inj.1
    simp
  rw [hcs] at hrun
  refine ⟨_, _, _, .slice (some ⟨w.heap.size, 0, none⟩) (l + n) N, _, s', ⟨N, hN, hN2, rfl, rfl⟩, ?_, .inl rfl, k1, k3, .slice hN (fun h => rfl) fun _ => ⟨_, k2, rfl, fun h => absurd h (by unfold UNK; omega)⟩⟩
  simp only [execOp, hop, resolve, Sem.run_bind, Sem.run_pure, Result.andThen_ok, invoke, builtin, List.map_toArray, List.map_cons, List.map_nil, q1, VR.int_inv e2]
  rw [hrun]; rfl
def appC (aw : AW) (el size bytes : Nat) (z : List Value) (sv : Value) (m : Int) (K : Value → AW → Prop) : Prop :=
  ∃ q l c n os, sv = .slice q l c ∧ m = ((n : Nat) : Int) ∧ 0 < n ∧ Src aw size sv l os ∧ c < UNK ∧ c < l + n ∧ (2 * (l + n) + 768) * bytes ≤ 2 ^ 48 ∧
    ∀ N, l + n ≤ N → N < 2 ^ 63 → K (.slice (some ⟨aw.next, 0, none⟩) (l + n) N) (aw.alloc (os ++ (zeros z n ++ zeros z (N - (l + n)))) el size)
theorem lk_appC {N : Nat} {ops : Array Oper} {i : Nat} {rest : List Nat} {ds : List Deferred} {Kn : Env → List Deferred → AW → Prop} {Kp : List PanicEntry → Env → List Deferred → AW → Prop} {dt : Option Tmp} {zz : Value} {zl : List Value} {m : Int} {k kk : IntKind} {K : Value → AW → Prop}
    (hN : dstsOk N ops = true) (ho : ops[i]? = some o) (hd : o.dst = dt) (hg : wants ops o ρ true)
    (hop : o.op = .call { callee := .builtin .append, args := #[x, y], argTypes := at' }) (hat : at' = #[sT, xT]) (hx : okOpd P.globals.size x = true) (hy : okOpd P.globals.size y = true)
    (hu : P.underlying sT = some (.slice el)) (hsz : (P.info? el).map (·.size) = some size) (hby : (P.info? el).map (·.bytes) = some bytes) (hxu : P.underlying xT = some (.int k))
    (hz0 : (P.info? el).bind (·.zero) = some zz) (hzl : zz.cells.toList = zl) (hzs : zz.cells.size = size) (hp : plains zz.cells.toList = true) (hb0 : 0 < bytes) (hsz0 : 0 < size)
    (h1 : ρ.eval x = sv) (h2 : ρ.eval y = .int kk m) (H : appC aw el size bytes zl sv m K)
    (hk : ∀ v aw', K v aw' → AOps P N ops rest (ρ.put dt v) ds aw' Kn Kp) : AOps P N ops (i :: rest) ρ ds aw Kn Kp := by
  subst hd; subst hzl
  obtain ⟨q, l, c, n, os, hpv, rfl, hn0, hos, hc, hfit, hb, hK⟩ := H
  refine aops_valW hN ho hg (opw_appendZ hop hat hx hy hu hsz hby hxu hz0 hzs hp hb0 hn0 h1 h2 hos ⟨q, hpv⟩ hc hfit hsz0 hb) fun v aw' hR => ?_
  obtain ⟨M, h3, h4, rfl, rfl⟩ := hR
  exact hk _ _ (hK M h3 h4)
end
end Go.Am
set_option linter.unusedVariables false
set_option linter.unusedSectionVars false
namespace Go.Am
open Go Go.RowKit
variable [SymE]
section
variable {P : Program} {N : Nat} {ops : Array Oper} {i : Nat} {rest : List Nat} {ρ : Env} {ds : List Deferred} {aw aw' : AW}
  {Kn : Env → List Deferred → AW → Prop} {Kp : List PanicEntry → Env → List Deferred → AW → Prop} {o : Oper} {v : Value}
theorem lj (d : Tmp) (hN : dstsOk N ops = true) (ho : ops[i]? = some o) (hd : o.dst = some d) (hg : wants ops o ρ true) (hv : OpV P o ρ aw v aw') (hk : AOps P N ops rest (ρ.put (some d) v) ds aw' Kn Kp) : AOps P N ops (i :: rest) ρ ds aw Kn Kp := lk hN ho hd hg hv hk
theorem ls (d : Tmp) (hN : dstsOk N ops = true) (ho : ops[i]? = some o) (hd : o.dst = some d) (hg : wants ops o ρ false) (hk : AOps P N ops rest (ρ.put (some d) undef) ds aw Kn Kp) : AOps P N ops (i :: rest) ρ ds aw Kn Kp := lk_skip hN ho hd hg hk
theorem lc {α : Type} {sh : α → Value} {K : α → AW → Prop} {E : List PanicEntry → AW → Prop} {fid : FuncId} {args : List Value} (d : Tmp) (hN : dstsOk N ops = true) (ho : ops[i]? = some o) (hd : o.dst = some d) (hg : wants ops o ρ true) (hc : OpC P o ρ fid args)
    (H : CallP P fid args aw sh K E) (hE : ∀ ch aw, E ch aw → Kp ch ρ ds aw) (hk : ∀ r aw, K r aw → AOps P N ops rest (ρ.put (some d) (sh r)) ds aw Kn Kp) : AOps P N ops (i :: rest) ρ ds aw Kn Kp := lk_call hN ho hd hg hc H hE hk
theorem fc {i : Nat} (d : Nat) (v : Value) {l : List Nat} (h : ∀ o', ops[i]? = some o' → HeadOp P ops o' ρ aw v) (hd : dstOf ops i = some d) (hv : ρ d = v) (r : FFl P ops l ρ aw) : FFl P ops (i :: l) ρ aw := ffc h hd hv r
end
end Go.Am
set_option linter.unusedSimpArgs false
set_option linter.unusedVariables false
set_option linter.unusedSectionVars false
namespace Go.Am
open Go Go.RowKit
variable [SymE]
section
variable {P : Program} {ρ : Env} {aw aw' : AW} {o : Oper} {x y : Operand} {v p : Value}
def Lies (P : Program) (aw : AW) (T n : Nat) (p : Value) : Prop := ∃ b i B, p = .pointer (some ⟨b, i, none⟩) ∧ aw.m b = some B ∧ B.esz = 0 ∧ i + n ≤ B.cells.length ∧ 0 < n ∧ liesAt P P.depth B.elem (B.cells.length / P.cellsOf B.elem) i T 1 = true
theorem ov_toL {src dst T : TypeId} {n : Nat} (hop : o.op = .convert src dst x) (hx : okOpd P.globals.size x = true) (hs : P.underlying src = some (.pointer T)) (hd : P.underlying dst = some .unsafePointer)
    (hsz : (P.info? T).map (·.size) = some n) (h1 : ρ.eval x = p) (hp : Lies P aw T n p) : OpV P o ρ aw p aw := by
  intro base w0 s f w hr hf
  obtain ⟨b, i, B, rfl, hB, hB0, hBn, hBl, hBL⟩ := hp
  have e1 := hf x hx; rw [h1] at e1
  obtain ⟨e, he, h2⟩ := e1.ptr_inv
  obtain ⟨e', cs, fz, g1, g2, g3, g4, g5, g6, g7⟩ := hr.blk b B hB
  rw [he] at g1; obtain rfl := Option.some.inj g1
  obtain ⟨o0, oc⟩ := g2.2.2 hB0
  obtain ⟨j, hj, hjs⟩ := Option.map_eq_some_iff.1 hsz
  have hc : (convert src dst (.pointer (some ⟨e.cb, e.off + i, none⟩))).run P w = .ok (.pointer (some ⟨e.cb, e.off + i, none⟩)) w :=
    Lib.run_to_unsafe (t := T) (e := B.elem) (cells := cs.size) w ⟨e.cb, e.off + i, none⟩ hs hd hj (by rw [hjs]; omega) (by simp [World.shape?, g3]) (by simp only; omega)
  refine ⟨_, f x, w, s, ?_, .inl rfl, Inj.le_refl s, hr, e1⟩
  simp only [execOp, hop, h2, hc, Sem.run_bind, Result.andThen_ok, Sem.run_pure]
theorem ov_fromL {src dst T : TypeId} {n : Nat} (hop : o.op = .convert src dst x) (hx : okOpd P.globals.size x = true) (hs : P.underlying src = some .unsafePointer) (hd : P.underlying dst = some (.pointer T))
    (hsz : (P.info? T).map (·.size) = some n) (h1 : ρ.eval x = p) (hp : Lies P aw T n p) : OpV P o ρ aw p aw := by
  intro base w0 s f w hr hf
  obtain ⟨b, i, B, rfl, hB, hB0, hBn, hBl, hBL⟩ := hp
  have e1 := hf x hx; rw [h1] at e1
  obtain ⟨e, he, h2⟩ := e1.ptr_inv
  obtain ⟨e', cs, fz, g1, g2, g3, g4, g5, g6, g7⟩ := hr.blk b B hB
  rw [he] at g1; obtain rfl := Option.some.inj g1
  obtain ⟨o0, oc⟩ := g2.2.2 hB0
  obtain ⟨j, hj, hjs⟩ := Option.map_eq_some_iff.1 hsz
  have hcs : cs.size = B.cells.length := by omega
  have hc : (convert src dst (.pointer (some ⟨e.cb, e.off + i, none⟩))).run P w = .ok (.pointer (some ⟨e.cb, e.off + i, none⟩)) w :=
    Lib.run_from_unsafe (u := T) (e := B.elem) (cells := cs.size) w ⟨e.cb, e.off + i, none⟩ hs hd hj (by simp [World.shape?, g3]) (by simp only [o0, Nat.zero_add]; rw [hcs]; exact hBL)
  refine ⟨_, f x, w, s, ?_, .inl rfl, Inj.le_refl s, hr, e1⟩
  simp only [execOp, hop, h2, hc, Sem.run_bind, Result.andThen_ok, Sem.run_pure]
end
end Go.Am
set_option linter.unusedSimpArgs false
set_option linter.unusedVariables false
set_option linter.unusedSectionVars false
namespace Go.Am
open Go Go.RowKit
variable [SymE]
structure Hp (aw0 : AW) (own : List Nat) (ro : List (Nat × Blk)) (aw : AW) (l : List (Nat × Blk)) : Prop where
  nd : (l.map (·.1)).Nodup
  at_ : ∀ p ∈ l, aw.m p.1 = some p.2 ∧ p.1 < aw.next
  mine : ∀ p ∈ l, p.1 ∈ own ∨ aw0.next ≤ p.1
  le : aw0.next ≤ aw.next
  keep : ∀ b, b < aw0.next → b ∉ own → aw.m b = aw0.m b
  ro_ : ∀ p ∈ ro, aw0.m p.1 = some p.2 ∧ p.1 < aw0.next ∧ p.1 ∉ own
inductive At : List (Nat × Blk) → Nat → Blk → Prop
  | here {l : List (Nat × Blk)} {b : Nat} {B : Blk} : At ((b, B) :: l) b B
  | there {x : Nat × Blk} {l : List (Nat × Blk)} {b : Nat} {B : Blk} (h : At l b B) : At (x :: l) b B
theorem At.mem {l : List (Nat × Blk)} {b : Nat} {B : Blk} (h : At l b B) : (b, B) ∈ l := by
  induction h with
  | here => simp
  | there _ ih => exact List.mem_cons_of_mem _ ih
inductive Up : List (Nat × Blk) → Nat → Blk → Blk → List (Nat × Blk) → Prop
  | here {l : List (Nat × Blk)} {b : Nat} {B B' : Blk} : Up ((b, B) :: l) b B B' ((b, B') :: l)
  | there {x : Nat × Blk} {l l' : List (Nat × Blk)} {b : Nat} {B B' : Blk} (h : Up l b B B' l') : Up (x :: l) b B B' (x :: l')
inductive Out : List (Nat × Blk) → Nat → Blk → List (Nat × Blk) → Prop
  | here {l : List (Nat × Blk)} {b : Nat} {B : Blk} : Out ((b, B) :: l) b B l
  | there {x : Nat × Blk} {l l' : List (Nat × Blk)} {b : Nat} {B : Blk} (h : Out l b B l') : Out (x :: l) b B (x :: l')
theorem Up.at_ {l l' : List (Nat × Blk)} {b : Nat} {B B' : Blk} (h : Up l b B B' l') : At l b B := by
  induction h with
  | here => exact .here
  | there _ ih => exact .there ih
theorem Up.ids {l l' : List (Nat × Blk)} {b : Nat} {B B' : Blk} (h : Up l b B B' l') : l'.map (·.1) = l.map (·.1) := by
  induction h with
  | here => rfl
  | there _ ih => simp [ih]
theorem Up.get {l l' : List (Nat × Blk)} {b : Nat} {B B' : Blk} (h : Up l b B B' l') (hn : (l.map (·.1)).Nodup) : ∀ p ∈ l', p = (b, B') ∨ (p ∈ l ∧ p.1 ≠ b) := by
  induction h with
  | here =>
    rename_i l b B B'
    intro p hp
    simp only [List.map_cons, List.nodup_cons] at hn
    rcases List.mem_cons.1 hp with rfl | hp
    · exact .inl rfl
    · exact .inr ⟨List.mem_cons_of_mem _ hp, fun h => hn.1 (h ▸ List.mem_map.2 ⟨p, hp, rfl⟩)⟩
  | there h ih =>
    rename_i x l l' b B B'
    intro p hp
    simp only [List.map_cons, List.nodup_cons] at hn
    rcases List.mem_cons.1 hp with rfl | hp
    · exact .inr ⟨by simp, fun he => hn.1 (he ▸ List.mem_map.2 ⟨_, h.at_.mem, rfl⟩)⟩
    · rcases ih hn.2 p hp with h | ⟨h1, h2⟩
      · exact .inl h
      · exact .inr ⟨List.mem_cons_of_mem _ h1, h2⟩
theorem Out.at_ {l l' : List (Nat × Blk)} {b : Nat} {B : Blk} (h : Out l b B l') : At l b B := by
  induction h with
  | here => exact .here
  | there _ ih => exact .there ih
theorem Out.get {l l' : List (Nat × Blk)} {b : Nat} {B : Blk} (h : Out l b B l') (hn : (l.map (·.1)).Nodup) : (l'.map (·.1)).Nodup ∧ ∀ p ∈ l', p ∈ l ∧ p.1 ≠ b := by
  induction h with
  | here =>
    rename_i l b B
    simp only [List.map_cons, List.nodup_cons] at hn
    exact ⟨hn.2, fun p hp => ⟨List.mem_cons_of_mem _ hp, fun h => hn.1 (h ▸ List.mem_map.2 ⟨p, hp, rfl⟩)⟩⟩
  | there h ih =>
    rename_i x l l' b B
    simp only [List.map_cons, List.nodup_cons] at hn ⊢
    obtain ⟨i1, i2⟩ := ih hn.2
    refine ⟨⟨fun hx => hn.1 ?_, i1⟩, fun p hp => ?_⟩
    · obtain ⟨p, hp, he⟩ := List.mem_map.1 hx
      exact List.mem_map.2 ⟨p, (i2 p hp).1, he⟩
    · rcases List.mem_cons.1 hp with rfl | hp
      · exact ⟨by simp, fun he => hn.1 (he ▸ List.mem_map.2 ⟨_, h.at_.mem, rfl⟩)⟩
      · exact ⟨List.mem_cons_of_mem _ (i2 p hp).1, (i2 p hp).2⟩
inductive Put : List Value → Nat → List Value → List Value → Prop
  | nil {r : List Value} : Put r 0 [] r
  | cons {c v : Value} {r r' vs : List Value} (h : Put r 0 vs r') : Put (c :: r) 0 (v :: vs) (v :: r')
  | skip {c : Value} {r r' vs : List Value} {i : Nat} (h : Put r i vs r') : Put (c :: r) (i + 1) vs (c :: r')
section
variable {aw0 aw : AW} {own : List Nat} {ro l l' : List (Nat × Blk)} {b i n off size : Nat} {B B' : Blk} {v p : Value} {k : IntKind} {cs cs' : List Value}
theorem Hp.m (M : Hp aw0 own ro aw l) (h : At l b B) : aw.m b = some B := (M.at_ _ h.mem).1
theorem Hp.r (M : Hp aw0 own ro aw l) (h : At ro b B) : aw.m b = some B := by
  obtain ⟨h1, h2, h3⟩ := M.ro_ _ h.mem
  rw [M.keep _ h2 h3]; exact h1
theorem Hp.init (hn : (l.map (·.1)).Nodup) (ha : ∀ p ∈ l, aw.m p.1 = some p.2 ∧ p.1 < aw.next) (hr : ∀ p ∈ ro, aw.m p.1 = some p.2 ∧ p.1 < aw.next ∧ p.1 ∉ l.map (·.1)) : Hp aw (l.map (·.1)) ro aw l :=
  ⟨hn, ha, fun p hp => .inl (List.mem_map.2 ⟨p, hp, rfl⟩), Nat.le_refl _, fun _ _ _ => rfl, hr⟩
theorem get_m (h : aw.m b = some B) (hc : B.cells[i]? = some v) : aw.get b i = some v := by simp [AW.get, h, hc]
theorem setN_m : ∀ (vs : List Value) (aw : AW) (b i c : Nat), (aw.setN b i vs).m c = if c = b then (aw.m b).map fun B => { B with cells := (List.range vs.length).foldl (fun cs j => cs.set (i + j) (vs.getD j undef)) B.cells } else aw.m c := by
  intro vs
  induction vs with
  | nil => intro aw b i c; simp [AW.setN]; intro h; subst h; cases aw.m c <;> rfl
  | cons v vs ih =>
    intro aw b i c
    rw [AW.setN, ih]
    simp only [AW.set]
    split
    · rename_i h
      simp only [if_true, Option.map_map]
      congr 1
      funext B
      simp only [Function.comp, List.length_cons]
      congr 1
      rw [List.range_succ_eq_map, List.foldl_cons, List.foldl_map]
      simp only [Nat.add_zero, List.getD_cons_zero]
      congr 1
      funext cs j
      simp only [List.getD_cons_succ]
      congr 1
      omega
    · rfl
theorem setN_next (vs : List Value) : ∀ (aw : AW) (b i : Nat), (aw.setN b i vs).next = aw.next := by
  induction vs with
  | nil => intros; rfl
  | cons v vs ih => intro aw b i; rw [AW.setN, ih]; rfl
theorem Put.fold {cs vs cs' : List Value} {i : Nat} (h : Put cs i vs cs') : (List.range vs.length).foldl (fun cs j => cs.set (i + j) (vs.getD j undef)) cs = cs' := by
  induction h with
  | nil => rfl
  | cons h ih =>
    rename_i c v r r' vs
    rw [List.length_cons, List.range_succ_eq_map, List.foldl_cons, List.foldl_map]
    simp only [Nat.zero_add, List.getD_cons_zero, List.set_cons_zero]
    have key : ∀ (l : List Nat) (x : List Value), l.foldl (fun cs j => cs.set (j + 1) ((v :: vs).getD (j + 1) undef)) (v :: x) = v :: l.foldl (fun cs j => cs.set j (vs.getD j undef)) x := by
      intro l
      induction l with
      | nil => intro x; rfl
      | cons a l ihl => intro x; simp only [List.foldl_cons, List.set_cons_succ, List.getD_cons_succ]; exact ihl _
    rw [key]
    have e : (fun (cs : List Value) (j : Nat) => cs.set j (vs.getD j undef)) = fun cs j => cs.set (0 + j) (vs.getD j undef) := by funext cs j; rw [Nat.zero_add]
    rw [e, ih]
  | skip h ih =>
    rename_i c r r' vs i
    have key : ∀ (l : List Nat) (x : List Value), l.foldl (fun cs j => cs.set (i + 1 + j) (vs.getD j undef)) (c :: x) = c :: l.foldl (fun cs j => cs.set (i + j) (vs.getD j undef)) x := by
      intro l
      induction l with
      | nil => intro x; rfl
      | cons a l ihl =>
        intro x
        simp only [List.foldl_cons]
        rw [show i + 1 + a = (i + a) + 1 by omega, List.set_cons_succ]
        exact ihl _
    rw [key, ih]
theorem Put.len {cs vs cs' : List Value} {i : Nat} (h : Put cs i vs cs') : i + vs.length ≤ cs.length := by
  induction h with
  | nil => simp
  | cons _ ih => simp at ih ⊢; omega
  | skip _ ih => simp at ih ⊢; omega
theorem Hp.set (M : Hp aw0 own ro aw l) (hp : Put B.cells i cs cs') (hu : Up l b B ⟨cs', B.elem, B.esz, B.rw, B.fz⟩ l') : Hp aw0 own ro (aw.setN b i cs) l' := by
  have hb := M.m hu.at_
  have hmine := M.mine _ hu.at_.mem
  refine ⟨hu.ids ▸ M.nd, fun p hp' => ?_, fun p hp' => ?_, by rw [setN_next]; exact M.le, fun c hc hne => ?_, M.ro_⟩
  · rw [setN_m, setN_next]
    rcases hu.get M.nd p hp' with rfl | ⟨h1, h2⟩
    · simp only [if_true, hb, Option.map_some, hp.fold]
      exact ⟨trivial, (M.at_ _ hu.at_.mem).2⟩
    · rw [if_neg h2]; exact M.at_ p h1
  · rcases hu.get M.nd p hp' with rfl | ⟨h1, h2⟩
    · exact hmine
    · exact M.mine p h1
  · rw [setN_m, if_neg, M.keep c hc hne]
    rintro rfl
    rcases hmine with h | h
    · exact hne h
    · exact absurd hc (by simp at h; omega)
theorem Hp.alloc (M : Hp aw0 own ro aw l) (elem esz : Nat) : Hp aw0 own ro (aw.alloc cs elem esz) ((aw.next, ⟨cs, elem, esz, true, 0⟩) :: l) := by
  refine ⟨?_, fun p hp => ?_, fun p hp => ?_, Nat.le_succ_of_le M.le, fun c hc hne => ?_, M.ro_⟩
  · simp only [List.map_cons, List.nodup_cons]
    refine ⟨fun h => ?_, M.nd⟩
    obtain ⟨p, hp, he⟩ := List.mem_map.1 h
    exact absurd (M.at_ p hp).2 (by rw [he]; exact Nat.lt_irrefl _)
  · rcases List.mem_cons.1 hp with rfl | hp
    · simp [AW.alloc]
    · obtain ⟨h1, h2⟩ := M.at_ p hp
      simp only [AW.alloc]
      rw [if_neg (by omega)]
      exact ⟨h1, by omega⟩
  · rcases List.mem_cons.1 hp with rfl | hp
    · exact .inr M.le
    · exact M.mine p hp
  · simp only [AW.alloc]
    rw [if_neg (by have := M.le; omega)]
    exact M.keep c hc hne
theorem Hp.kill (M : Hp aw0 own ro aw l) (hu : Out l b B l') : Hp aw0 own ro (aw.kill b) l' := by
  obtain ⟨h1, h2⟩ := hu.get M.nd
  refine ⟨h1, fun p hp => ?_, fun p hp => M.mine p (h2 p hp).1, M.le, fun c hc hne => ?_, M.ro_⟩
  · simp only [AW.kill]
    rw [if_neg (h2 p hp).2]
    exact M.at_ p (h2 p hp).1
  · simp only [AW.kill]
    rw [if_neg, M.keep c hc hne]
    rintro rfl
    rcases M.mine _ hu.at_.mem with h | h
    · exact hne h
    · exact absurd hc (by simp at h; omega)
theorem Hp.drop (M : Hp aw0 own ro aw l) (hu : Out l b B l') : Hp aw0 own ro aw l' := by
  obtain ⟨h1, h2⟩ := hu.get M.nd
  exact ⟨h1, fun p hp => M.at_ p (h2 p hp).1, fun p hp => M.mine p (h2 p hp).1, M.le, M.keep, M.ro_⟩
theorem Hp.perm (M : Hp aw0 own ro aw l) (h : l.Perm l') : Hp aw0 own ro aw l' :=
  ⟨(h.map _).nodup_iff.1 M.nd, fun p hp => M.at_ p (h.mem_iff.2 hp), fun p hp => M.mine p (h.mem_iff.2 hp), M.le, M.keep, M.ro_⟩
theorem Out.perm {l l' : List (Nat × Blk)} (h : Out l b B l') : l.Perm ((b, B) :: l') := by
  induction h with
  | here => exact List.Perm.refl _
  | there _ ih => exact (List.Perm.cons _ ih).trans (List.Perm.swap _ _ _)
theorem Hp.front (M : Hp aw0 own ro aw l) (hu : Out l b B l') : Hp aw0 own ro aw ((b, B) :: l') := M.perm hu.perm
inductive In (aw : AW) (b : Nat) (B : Blk) : Prop
  | mk (h : aw.m b = some B)
theorem Hp.im (M : Hp aw0 own ro aw l) (h : At l b B) : In aw b B := ⟨M.m h⟩
theorem Hp.ir (M : Hp aw0 own ro aw l) (h : At ro b B) : In aw b B := ⟨M.r h⟩
inductive Cell : List Value → Nat → Value → Prop
  | here {v : Value} {r : List Value} : Cell (v :: r) 0 v
  | there {c v : Value} {r : List Value} {i : Nat} (h : Cell r i v) : Cell (c :: r) (i + 1) v
theorem Cell.get {cs : List Value} {i : Nat} {v : Value} (h : Cell cs i v) : cs[i]? = some v := by
  induction h with
  | here => rfl
  | there _ ih => simpa using ih
theorem In.get (h : In aw b B) (hc : Cell B.cells i v) : aw.get b i = some v := get_m h.1 hc.get
theorem nck_x {K : Prop} (h : K) : nck (.pointer (some ⟨b, i, none⟩)) K := ⟨⟨b, i, rfl⟩, h⟩
theorem fldA_x {K : Value → Prop} (h : K (.pointer (some ⟨b, i + off, none⟩))) : fldA (.pointer (some ⟨b, i, none⟩)) off K := ⟨b, i, _, rfl, rfl, h⟩
theorem ptr_x {K : Nat → Nat → Prop} (h : K b i) : ptr (.pointer (some ⟨b, i, none⟩)) K := ⟨b, i, rfl, h⟩
theorem ldI_x {K : Int → Prop} {n : Int} (hi : In aw b B) (hc : Cell B.cells i (.int k n)) (h : K n) : ldI k aw (.pointer (some ⟨b, i, none⟩)) K := ⟨b, i, n, rfl, hi.get hc, h⟩
theorem ldB_x {K : Bool → Prop} {n : Bool} (hi : In aw b B) (hc : Cell B.cells i (.bool n)) (h : K n) : ldB aw (.pointer (some ⟨b, i, none⟩)) K := ⟨b, i, n, rfl, hi.get hc, h⟩
theorem ldS_x {K : ByteArray → Prop} {n : ByteArray} (hi : In aw b B) (hc : Cell B.cells i (.string n)) (h : K n) : ldS aw (.pointer (some ⟨b, i, none⟩)) K := ⟨b, i, n, rfl, hi.get hc, h⟩
theorem ldV_x {K : Value → Prop} {n : Value} (hi : In aw b B) (hc : Cell B.cells i n) (h : K n) : ldV aw (.pointer (some ⟨b, i, none⟩)) K := ⟨b, i, n, rfl, hi.get hc, h⟩
theorem gI_x {K : Int → Prop} {n : Int} (hi : In aw b B) (hc : Cell B.cells i (.int k n)) (h : K n) : gI k aw b i K := ⟨n, hi.get hc, h⟩
theorem gB_x {K : Bool → Prop} {n : Bool} (hi : In aw b B) (hc : Cell B.cells i (.bool n)) (h : K n) : gB aw b i K := ⟨n, hi.get hc, h⟩
theorem gS_x {K : ByteArray → Prop} {n : ByteArray} (hi : In aw b B) (hc : Cell B.cells i (.string n)) (h : K n) : gS aw b i K := ⟨n, hi.get hc, h⟩
theorem gV_x {K : Value → Prop} {n : Value} (hi : In aw b B) (hc : Cell B.cells i n) (h : K n) : gV aw b i K := ⟨n, hi.get hc, h⟩
theorem again_x {K : Prop} (hi : In aw b B) (hc : Cell B.cells i v) (h : K) : again1 aw (.pointer (some ⟨b, i, none⟩)) v ∧ K :=
  ⟨fun b' i' he => by injection he with he; injection he with he; injection he with h1 h2; subst h1; subst h2; exact hi.get hc, h⟩
theorem get_x {K : Prop} (hi : In aw b B) (hc : Cell B.cells i v) (h : K) : aw.get b i = some v ∧ K := ⟨hi.get hc, h⟩
theorem st_x {K : AW → Prop} (M : Hp aw0 own ro aw l) (hu : Up l b B ⟨cs', B.elem, B.esz, true, 0⟩ l') (hp : Put B.cells i cs cs') (hrw : B.rw = true) (hfz : B.fz = 0) (ho : cs.all one = true)
    (h : ∀ aw', Hp aw0 own ro aw' l' → K aw') : st aw (.pointer (some ⟨b, i, none⟩)) cs K := by
  obtain ⟨cells, elem, esz, rw, fz⟩ := B
  simp only at hrw hfz hp hu
  subst hrw; subst hfz
  exact ⟨b, i, _, rfl, ⟨_, M.m hu.at_, rfl, hp.len, Nat.zero_le _⟩, ho, rfl, h _ (M.set hp hu)⟩
theorem alc_x {K : Value → AW → Prop} {t e : Nat} (M : Hp aw0 own ro aw l) (h : ∀ b aw', Hp aw0 own ro aw' ((b, ⟨cs, t, e, true, 0⟩) :: l) → K (.pointer (some ⟨b, 0, none⟩)) aw') : alc aw cs t e K := ⟨_, _, rfl, rfl, h _ _ (M.alloc t e)⟩
theorem alcS_x {K : Value → AW → Prop} {t e n : Nat} (M : Hp aw0 own ro aw l) (h : ∀ b aw', Hp aw0 own ro aw' ((b, ⟨cs, t, e, true, 0⟩) :: l) → K (.slice (some ⟨b, 0, none⟩) n n) aw') : alcS aw cs t e n K := ⟨_, _, rfl, rfl, h _ _ (M.alloc t e)⟩
theorem slen_x {K : Int → Prop} {q : Option Addr} {n c : Nat} (h : K (n : Int)) : slen (.slice q n c) K := ⟨q, n, c, _, rfl, rfl, h⟩
theorem scap_x {K : Int → Prop} {q : Option Addr} {n c : Nat} (hc : c < UNK) (h : K (c : Int)) : scap (.slice q n c) K := ⟨q, n, c, _, rfl, hc, rfl, h⟩
theorem ixS_x {K : Value → Prop} {n c : Nat} {j : Int} (h0 : 0 ≤ j) (h1 : j < n) (h : K (.pointer (some ⟨b, i + j.toNat * size, none⟩))) : ixS (.slice (some ⟨b, i, none⟩) n c) j size K := ⟨b, i, n, c, _, rfl, h0, h1, rfl, h⟩
theorem cnd_1x {q : Bool} {X Y : Prop} (hb : q = true) (h : X) : cnd q X Y := by subst hb; exact ⟨fun _ => h, (fun h' => Bool.noConfusion h')⟩
theorem cnd_0x {q : Bool} {X Y : Prop} (hb : q = false) (h : Y) : cnd q X Y := by subst hb; exact ⟨(fun h' => Bool.noConfusion h'), fun _ => h⟩
theorem nilB_x {K : Bool → Prop} {d : TypeDesc} {u c : Value} {q : Bool} (h1 : nilFits d u c = true) (h2 : (isNil u).getD false = q) (h : K q) : nilB d u c K := ⟨q, h1, h2.symm, h⟩
theorem tyQ_yx {d : Nat} {u v : Value} {Ky : Value → Prop} {Kn : Prop} (h1 : u = .iface d v) (h : Ky v) : tyQ d u Ky Kn := .inl ⟨v, h1, h⟩
theorem tyQ_nx {d q : Nat} {u v : Value} {Ky : Value → Prop} {Kn : Prop} (h1 : u = .iface q v) (hq : q ≠ d) (h : Kn) : tyQ d u Ky Kn := .inr ⟨.inl ⟨q, v, h1, hq⟩, h⟩
end
end Go.Am
set_option linter.unusedSimpArgs false
set_option linter.unusedVariables false
set_option linter.unusedSectionVars false
namespace Go.Am
open Go Go.RowKit
variable [SymE]
section
universe u
variable {α : Type u} {aw0 aw : AW} {own : List Nat} {ro l l' : List (Nat × Blk)} {b i n c k m off size el bytes : Nat} {B B' : Blk} {v p xv : Value} {cs os : List Value}
theorem getN_m (h : aw.m b = some B) : ∀ {n i : Nat}, i + n ≤ B.cells.length → aw.getN b i n = some ((B.cells.drop i).take n)
  | 0, i, _ => by simp [AW.getN]
  | n + 1, i, hl => by
    have hi : i < B.cells.length := by omega
    have e : aw.get b i = some B.cells[i] := by simp [AW.get, h, hi]
    simp only [AW.getN, e, getN_m h (n := n) (i := i + 1) (by omega), Option.map_some]
    rw [List.drop_eq_getElem_cons hi, List.take_succ_cons]
theorem Hp.dropL : ∀ {L : List (Nat × Blk)}, Hp aw0 own ro aw (L ++ l) → Hp aw0 own ro aw l
  | [], M => M
  | _ :: L, M => Hp.dropL (L := L) (M.drop .here)
inductive Seg : List Value → Nat → Nat → List Value → Prop
  | nil {r : List Value} : Seg r 0 0 []
  | take {c : Value} {r s : List Value} {n : Nat} (h : Seg r 0 n s) : Seg (c :: r) 0 (n + 1) (c :: s)
  | drop {c : Value} {r s : List Value} {i n : Nat} (h : Seg r i n s) : Seg (c :: r) (i + 1) n s
theorem Seg.spec {r s : List Value} {i n : Nat} (h : Seg r i n s) : i + n ≤ r.length ∧ (r.drop i).take n = s := by
  induction h with
  | nil => simp
  | take _ ih => simp at ih ⊢; exact ⟨by omega, ih.2⟩
  | drop _ ih => simp at ih ⊢; exact ⟨by omega, ih.2⟩
theorem src_x (hi : In aw b B) (hl : i + n * size ≤ B.cells.length) (hc : (B.cells.drop i).take (n * size) = cs) : Src aw size (.slice (some ⟨b, i, none⟩) n c) n cs := by
  subst hc; exact .slice (getN_m hi.1 hl)
theorem src_s (hi : In aw b B) (hm : n * size = m) (h : Seg B.cells i m cs) : Src aw size (.slice (some ⟨b, i, none⟩) n c) n cs := by
  obtain ⟨h1, h2⟩ := h.spec
  subst hm
  exact src_x hi h1 h2
theorem app_nil {K : Value → AW → Prop} (M : Hp aw0 own ro aw l) (hs : Src aw size xv n cs) (h0 : 0 < n) (hb : (2 * n + 768) * bytes ≤ 2 ^ 48)
    (h : ∀ b aw', Hp aw0 own ro aw' ((b, ⟨cs, el, size, true, 0⟩) :: l) → K (.slice (some ⟨b, 0, none⟩) n UNK) aw') : app aw el size bytes (.slice none 0 0) xv K := by
  have := App.grows (el := el) (bytes := bytes) (q := none) (l := 0) (c := 0) (aw := aw) (xv := xv) (.nil) hs (by unfold UNK; omega) (by omega) (by simpa using hb)
  rw [List.nil_append, Nat.zero_add] at this
  exact ⟨_, _, this, h _ _ (M.alloc el size)⟩
theorem app_none {K : Value → AW → Prop} {q : Option Addr} (hs : Src aw size xv 0 cs) (h : K (.slice q n c) aw) : app aw el size bytes (.slice q n c) xv K := ⟨_, _, .none hs, h⟩
theorem app_mv {K : Value → AW → Prop} (M : Hp aw0 own ro aw l) (ho : Out l b ⟨os, el, size, true, 0⟩ l') (hn : n * size ≤ os.length) (hs : Src aw size xv k cs) (h1 : cs.all one = true) (hb : (2 * (n + k) + 768) * bytes ≤ 2 ^ 48)
    (h : ∀ b aw', Hp aw0 own ro aw' ((b, ⟨os.take (n * size) ++ cs, el, size, true, 0⟩) :: l') → K (.slice (some ⟨b, 0, none⟩) (n + k) UNK) aw') : app aw el size bytes (.slice (some ⟨b, 0, none⟩) n UNK) xv K := by
  have hB := M.m ho.at_
  have hg : aw.getN b 0 (n * size) = some (os.take (n * size)) := by
    rw [getN_m hB (by simpa using hn)]; simp
  exact ⟨_, _, .moves hg hs (Nat.le_refl _) hB rfl rfl rfl rfl h1 hb, h _ _ ((M.kill ho).alloc el size)⟩
theorem cutV_x {K : Value → Prop} {lo hi : Int} {a d : Nat} (hlo : lo = (a : Int)) (hhi : hi = (d : Int)) (h1 : a ≤ d) (h2 : d ≤ n) (hB : In aw b B) (he : B.esz = size) (h : K (.slice (some ⟨b, i + a * size, none⟩) (d - a) UNK)) :
    cutV aw size (.slice (some ⟨b, i, none⟩) n UNK) lo hi K := by
  subst hlo; subst hhi
  refine ⟨_, .some (lo := a) (hi := d) h1 (by rw [if_neg (Nat.lt_irrefl _)]; exact h2) (fun _ => ⟨B, hB.1, he⟩), ?_⟩
  simpa [capOf] using h
inductive SlP (el size : Nat) : Value → Nat → List Value → List (Nat × Blk) → Prop
  | nil : SlP el size (.slice none 0 0) 0 [] []
  | some {b n : Nat} {os : List Value} (h : n * size ≤ os.length) : SlP el size (.slice (some ⟨b, 0, none⟩) n UNK) n os [(b, ⟨os, el, size, true, 0⟩)]
theorem SlP.len {L : List (Nat × Blk)} (h : SlP el size v n os L) : n * size ≤ os.length := by
  cases h with
  | nil => simp
  | some h => exact h
theorem SlP.val {L : List (Nat × Blk)} (h : SlP el size v n os L) : ∃ q c, v = .slice q n c := by
  cases h with
  | nil => exact ⟨_, _, rfl⟩
  | some h => exact ⟨_, _, rfl⟩
theorem app_p {L : List (Nat × Blk)} {K : Value → AW → Prop} (hp : SlP el size v n os L) (M : Hp aw0 own ro aw (L ++ l)) (hs : Src aw size xv k cs) (h0 : 0 < k) (h1 : cs.all one = true) (hb : (2 * (n + k) + 768) * bytes ≤ 2 ^ 48)
    (h : ∀ b aw', Hp aw0 own ro aw' ((b, ⟨os.take (n * size) ++ cs, el, size, true, 0⟩) :: l) → K (.slice (some ⟨b, 0, none⟩) (n + k) UNK) aw') : app aw el size bytes v xv K := by
  cases hp with
  | nil =>
    refine app_nil M hs h0 (by rw [Nat.zero_add] at hb; exact hb) fun b aw' M => ?_
    have := h b aw' (by simpa using M)
    rwa [Nat.zero_add] at this
  | some hl => exact app_mv M .here hl hs h1 hb h
theorem all_one_W {f : α → Value} (hf : ∀ x, one (f x) = true) (ws : List α) : (ws.map f).all one = true := by simp [hf]
end
end Go.Am
set_option linter.unusedSimpArgs false
set_option linter.unusedVariables false
set_option linter.unusedSectionVars false
namespace Go.Ri
open Go Go.Am Go.RowKit
end Go.Ri
set_option linter.unusedSimpArgs false
set_option linter.unusedVariables false
namespace Go.Oc
abbrev St := Option (List UInt8)
end Go.Oc
namespace Go.Oc
end Go.Oc
namespace Go.Oc
end Go.Oc
set_option linter.unusedSimpArgs false
set_option linter.unusedVariables false
set_option linter.unusedSectionVars false
namespace Go.Am
open Go Go.RowKit
variable [SymE]
inductive Rb (aw : AW) : Value → List UInt8 → Prop
  | nil : Rb aw (.slice none 0 0) []
  | emp {b off c : Nat} (hc : c < UNK ∨ ∃ B, aw.m b = some B ∧ B.esz = 1) : Rb aw (.slice (some ⟨b, off, none⟩) 0 c) []
  | «at» {b off c : Nat} {B : Blk} {bs : List UInt8} (hb : aw.m b = some B) (he : B.esz = 1) (hl : off + bs.length ≤ B.cells.length) (hc : (B.cells.drop off).take bs.length = bytesV bs) (hcap : c < UNK → bs.length ≤ c) : Rb aw (.slice (some ⟨b, off, none⟩) bs.length c) bs
section
variable {aw aw' aw0 : AW} {own : List Nat} {ro l L S S' : List (Nat × Blk)} {v w : Value} {bs cs : List UInt8} {k : Nat}
theorem bytesV_get (l : List UInt8) (i : Nat) : (bytesV l)[i]? = (l[i]?).map fun b => .int .u8 b.toNat := by simp [bytesV]
theorem bytesV_one (l : List UInt8) : (bytesV l).all one = true := by
  simp only [bytesV, List.all_eq_true, List.mem_map]
  rintro x ⟨b, _, rfl⟩
  rfl
theorem Rb.src (h : Rb aw v bs) : Src aw 1 v bs.length (bytesV bs) := by
  cases h with
  | nil => exact .nil
  | emp => exact .slice (by simp [AW.getN, bytesV])
  | «at» hb he hl hc hcap => exact src_x ⟨hb⟩ (by omega) (by rw [Nat.mul_one]; exact hc)
theorem Rb.get (h : Rb aw v bs) {i : Nat} {x : UInt8} (hi : bs[i]? = some x) : ∃ b off c, v = .slice (some ⟨b, off, none⟩) bs.length c ∧ aw.get b (off + i * 1) = some (.int .u8 x.toNat) := by
  cases h with
  | nil => cases hi
  | emp => cases hi
  | «at» hb he hl hc hcap =>
    rename_i b off c B
    refine ⟨b, off, c, rfl, ?_⟩
    have hlt := (List.getElem?_eq_some_iff.1 hi).1
    have := congrArg (fun q => q[i]?) hc
    simp only [bytesV_get, hi, Option.map_some] at this
    rw [List.getElem?_take, if_pos hlt, List.getElem?_drop] at this
    rw [Nat.mul_one]
    exact get_m hb this
theorem Rb.cut (h : Rb aw v bs) {lo hi : Nat} (h1 : lo ≤ hi) (h2 : hi ≤ bs.length) : ∃ v', Cut aw 1 v (lo : Int) (hi : Int) v' ∧ Rb aw v' ((bs.drop lo).take (hi - lo)) := by
  cases h with
  | nil =>
    simp at h2
    subst h2
    obtain rfl : lo = 0 := by omega
    exact ⟨_, .nil, .nil⟩
  | emp hc =>
    rename_i b off c
    simp at h2
    subst h2
    obtain rfl : lo = 0 := by omega
    refine ⟨_, .some (Nat.le_refl _) (by split <;> omega) (fun hcc => hc.resolve_left (by omega)), ?_⟩
    simp only [Nat.sub_self, List.take_zero]
    refine .emp ?_
    rcases hc with hc | hc
    · left; unfold capOf; split <;> omega
    · exact .inr hc
  | «at» hb he hl hc hcap =>
    rename_i b off c B
    refine ⟨_, .some h1 (by split <;> first | omega | (rename_i hcc; have := hcap hcc; omega)) (fun _ => ⟨B, hb, he⟩), ?_⟩
    have hlen : ((bs.drop lo).take (hi - lo)).length = hi - lo := by simp; omega
    have hcells : (B.cells.drop (off + lo * 1)).take ((bs.drop lo).take (hi - lo)).length = bytesV ((bs.drop lo).take (hi - lo)) := by
      rw [hlen, Nat.mul_one]
      have e1 : bytesV ((bs.drop lo).take (hi - lo)) = ((bytesV bs).drop lo).take (hi - lo) := by simp [bytesV, List.map_take, List.map_drop]
      rw [e1, ← hc, List.drop_take, List.drop_drop, List.take_take]
      congr 1
      omega
    have := Rb.at (aw := aw) (b := b) (off := off + lo * 1) (c := capOf c lo) hb he (by rw [hlen]; omega) hcells (by
      rw [hlen]
      unfold capOf
      intro hq
      split at hq <;> rename_i hcc
      · have := hcap hcc
        simp only [hcc, if_true]
        omega
      · unfold UNK at *; omega)
    rw [hlen] at this
    exact this
def Rs (aw0 : AW) (own : List Nat) (ro S : List (Nat × Blk)) (v : Value) (bs : List UInt8) : Prop := ∀ (aw : AW) (L : List (Nat × Blk)), Hp aw0 own ro aw L → (∀ p ∈ S, p ∈ L) → Rb aw v bs
theorem Rs.more (h : Rs aw0 own ro S v bs) (hs : ∀ p ∈ S, p ∈ S') : Rs aw0 own ro S' v bs := fun aw L M hl => h aw L M fun p hp => hl p (hs p hp)
end
end Go.Am
set_option linter.unusedVariables false
set_option linter.unusedSimpArgs false
namespace Go.Ri
open Go Go.Am
@[reducible] def symOf (l : List (IntKind × Int)) : SymE := ⟨fun i => .int (l.getD i (.i64, 0)).1 (l.getD i (.i64, 0)).2, fun i => .inl ⟨_, _, rfl⟩⟩
end Go.Ri
