/- The library of this claim, part 3: values alike, an abstract memory, operations, regions, an interpreter that the kernel runs. -/
import Derived.Test.YtfdfakapkhflcaaL2
set_option linter.unusedSimpArgs false
set_option linter.unusedVariables false
set_option linter.unusedSectionVars false
namespace Go.Ri
open Go Go.Am Go.RowKit
noncomputable def lEqL (e : Value → Value → Bool) : List Value → List Value → Bool := List.rec (motive := fun _ => List Value → Bool) (fun l => List.rec (motive := fun _ => Bool) true (fun _ _ _ => false) l) fun a _ ih l => List.rec (motive := fun _ => Bool) false (fun b l _ => Bool.rec (motive := fun _ => Bool) false (ih l) (e a b)) l
def qBool (p : Bool) : Value → Bool
  | .bool q => p == q
  | _ => false
def qInt (k : IntKind) (m : Int) : Value → Bool
  | .int k' n => decide (k = k') && decide (m = n)
  | _ => false
def qStr (x : List UInt8) : Value → Bool
  | .string ⟨⟨y⟩⟩ => decide (x = y)
  | _ => false
def qAddr : Option Addr → Option Addr → Bool
  | none, none => true
  | some ⟨b1, o1, none⟩, some ⟨b2, o2, none⟩ => Nat.beq b1 b2 && Nat.beq o1 o2
  | _, _ => false
def qPtr (x : Option Addr) : Value → Bool
  | .pointer y => qAddr x y
  | _ => false
def qSl (x : Option Addr) (l c : Nat) : Value → Bool
  | .slice y l' c' => qAddr x y && (Nat.beq l l' && Nat.beq c c')
  | _ => false
def qMap (x : Option Nat) : Value → Bool
  | .map none => (match x with | none => true | some _ => false)
  | .map (some y) => (match x with | none => false | some x => Nat.beq x y)
  | _ => false
def qNF : Value → Bool
  | .nilFunc => true
  | _ => false
def qNI : Value → Bool
  | .nilIface => true
  | _ => false
noncomputable def qIf (e : Value → Value → Bool) (t : TypeId) (u : Value) : Value → Bool
  | .iface t' u' => Nat.beq t t' && e u u'
  | _ => false
noncomputable def qFn (e : Value → Value → Bool) (f : FuncId) (a c : List Value) : Value → Bool
  | .func (.func f') ⟨a'⟩ ⟨c'⟩ => Nat.beq f f' && (lEqL e a a' && lEqL e c c')
  | _ => false
noncomputable def qAgg (e : Value → Value → Bool) (a : List Value) : Value → Bool
  | .agg ⟨b⟩ => lEqL e a b
  | _ => false
noncomputable def qTup (e : Value → Value → Bool) (a : List Value) : Value → Bool
  | .tuple ⟨b⟩ => lEqL e a b
  | _ => false
noncomputable def vEq : Nat → Value → Value → Bool := Nat.rec (motive := fun _ => Value → Value → Bool) (fun _ _ => false) fun _ ih a b => match a with
  | .bool p => qBool p b
  | .int k m => qInt k m b
  | .string ⟨⟨x⟩⟩ => qStr x b
  | .pointer x => qPtr x b
  | .slice x l c => qSl x l c b
  | .map x => qMap x b
  | .nilFunc => qNF b
  | .nilIface => qNI b
  | .iface t u => qIf ih t u b
  | .func (.func f) ⟨a⟩ ⟨c⟩ => qFn ih f a c b
  | .agg ⟨a⟩ => qAgg ih a b
  | .tuple ⟨a⟩ => qTup ih a b
  | _ => false
theorem lEqL_spec {e : Value → Value → Bool} (he : ∀ a b, e a b = true → a = b) : ∀ {a b : List Value}, lEqL e a b = true → a = b
  | [], [], _ => rfl
  | [], _ :: _, h => by cases h
  | _ :: _, [], h => by cases h
  | x :: a, y :: b, h => by
    have h : Bool.rec (motive := fun _ => Bool) false (lEqL e a b) (e x y) = true := h
    cases hx : e x y with
    | false => rw [hx] at h; cases h
    | true =>
      rw [hx] at h
      rw [he x y hx, lEqL_spec he h]
theorem qAddr_spec {x y : Option Addr} (h : qAddr x y = true) : x = y := by
  unfold qAddr at h
  split at h
  · rfl
  · simp only [Bool.and_eq_true, Nat.beq_eq] at h
    rw [h.1, h.2]
  · cases h
theorem vEq_spec : ∀ (n : Nat) (a b : Value), vEq n a b = true → a = b
  | 0, a, b, h => by cases h
  | n + 1, a, b, h0 => by
    have ih := vEq_spec n
    have h : (match (generalizing := false) a with
      | .bool p => qBool p b
      | .int k m => qInt k m b
      | .string ⟨⟨x⟩⟩ => qStr x b
      | .pointer x => qPtr x b
      | .slice x l c => qSl x l c b
      | .map x => qMap x b
      | .nilFunc => qNF b
      | .nilIface => qNI b
      | .iface t u => qIf (vEq n) t u b
      | .func (.func f) ⟨a⟩ ⟨c⟩ => qFn (vEq n) f a c b
      | .agg ⟨a⟩ => qAgg (vEq n) a b
      | .tuple ⟨a⟩ => qTup (vEq n) a b
      | _ => false) = true := h0
    clear h0
    split at h
    · unfold qBool at h; split at h
      · rw [eq_of_beq h]
      · cases h
    · unfold qInt at h; split at h
      · simp only [Bool.and_eq_true, decide_eq_true_eq] at h; rw [h.1, h.2]
      · cases h
    · unfold qStr at h; split at h
      · rw [of_decide_eq_true h]
      · cases h
    · unfold qPtr at h; split at h
      · rw [qAddr_spec h]
      · cases h
    · unfold qSl at h; split at h
      · simp only [Bool.and_eq_true, Nat.beq_eq] at h; rw [qAddr_spec h.1, h.2.1, h.2.2]
      · cases h
    · unfold qMap at h; split at h
      · split at h
        · rfl
        · cases h
      · split at h
        · cases h
        · rw [Nat.eq_of_beq_eq_true h]
      · cases h
    · unfold qNF at h; split at h
      · rfl
      · cases h
    · unfold qNI at h; split at h
      · rfl
      · cases h
    · unfold qIf at h; split at h
      · simp only [Bool.and_eq_true, Nat.beq_eq] at h; rw [h.1, ih _ _ h.2]
      · cases h
    · unfold qFn at h; split at h
      · simp only [Bool.and_eq_true, Nat.beq_eq] at h; rw [h.1, lEqL_spec ih h.2.1, lEqL_spec ih h.2.2]
      · cases h
    · unfold qAgg at h; split at h
      · rw [lEqL_spec ih h]
      · cases h
    · unfold qTup at h; split at h
      · rw [lEqL_spec ih h]
      · cases h
    · cases h
variable [SymE]
variable [FT] [FTok]
abbrev Caller := FuncId → List Value → Mem → Option (AEnd × Mem)
def CS (P : Program) (C : Caller) : Prop := ∀ f args M e M', C f args M = some (e, M') → ACalls P f args M.abs fun e' aw' => e' = e ∧ aw' = M'.abs
section
variable {R : Type}
noncomputable def doT (t : T Value) (k : T Value → R) : R := T.dn t k
theorem doT_eq (t : T Value) (k : T Value → R) : doT t k = k t := rfl
noncomputable def doM (M : Mem) (k : Mem → R) : R := Mem.rec (motive := fun _ => R) (fun bl n => T.dn bl fun bl => doN n fun n => k ⟨bl, n⟩) M
theorem doM_eq (M : Mem) (k : Mem → R) : doM M k = k M := by
  obtain ⟨bl, n⟩ := M
  show T.dn bl (fun bl => doN n fun n => k ⟨bl, n⟩) = _
  rw [T.dn_eq, doN_eq]
end
inductive OpsR where
  | norm (ρ : T Value) (ds : List Deferred) (M : Mem)
  | pan (ch : List PanicEntry) (ρ : T Value) (ds : List Deferred) (M : Mem)
  | bad
def OpsR.holds (Kn : Env → List Deferred → AW → Prop) (Kp : List PanicEntry → Env → List Deferred → AW → Prop) : OpsR → Prop
  | .norm ρ ds M => Kn (slot ρ) ds M.abs
  | .pan ch ρ ds M => Kp ch (slot ρ) ds M.abs
  | .bad => False
def OpsR.holdsX (ops : Array Oper) (Kn : Env → List Deferred → AW → Prop) (Kp : List PanicEntry → Env → List Deferred → AW → Prop) : OpsR → Prop
  | .norm ρ ds M => Kn (slot ρ) ds M.abs
  | .pan ch ρ ds M => ∀ ρ', Off ops (slot ρ) ρ' → Kp ch ρ' ds M.abs
  | .bad => False
noncomputable def op1 (P : Program) (X : Exts) (C : Caller) (ops : Array Oper) (o : Oper) (ρ : T Value) (ds : List Deferred) (M : Mem) (next : T Value → List Deferred → Mem → OpsR) : OpsR := match gd ops (slot ρ) o.guard with
  | none => .bad
  | some false => doT (putS ρ o.dst undef) fun ρ => next ρ ds M
  | some true => (match o.op with
    | .call ⟨.value z, ⟨xs⟩, _⟩ => (match calls P (slot ρ) z xs with
      | none => (match extR P X (slot ρ) z xs with
        | none => .bad
        | some v => doV v fun v => doT (putS ρ o.dst v) fun ρ => next ρ ds M)
      | some (g, l) => doL l fun l => (match C g l M with
        | none => .bad
        | some (.returned v, M') => doV v fun v => doT (putS ρ o.dst v) fun ρ => doM M' fun M' => next ρ ds M'
        | some (.panicked ch, M') => .pan ch ρ ds M'))
    | .defer ⟨.value z, ⟨xs⟩, _⟩ => (match defers P (slot ρ) z xs with
      | none => .bad
      | some d => doT (putS ρ o.dst undef) fun ρ => next ρ (d :: ds) M)
    | .panic x => (match okv P.globals.size (slot ρ) x with
      | some (.iface u z) => .pan [⟨.iface u z, false, false⟩] ρ ds M
      | _ => .bad)
    | op => (match eOp P (slot ρ) M op with
      | none => .bad
      | some (v, M') => doV v fun v => doT (putS ρ o.dst v) fun ρ => doM M' fun M' => next ρ ds M'))
noncomputable def ops1 (P : Program) (X : Exts) (C : Caller) (ops : Array Oper) (l : List Oper) : T Value → List Deferred → Mem → OpsR := List.rec (motive := fun _ => T Value → List Deferred → Mem → OpsR) (fun ρ ds M => .norm ρ ds M)
  (fun o _ ih ρ ds M => op1 P X C ops o ρ ds M ih) l
section
variable {P : Program} {X : Exts} {C : Caller} {N : Nat} {ops : Array Oper} {Kn : Env → List Deferred → AW → Prop} {Kp : List PanicEntry → Env → List Deferred → AW → Prop}
theorem slot_put (ρ : T Value) (d : Option Tmp) (v : Value) : slot (putS ρ d v) = (show Env from slot ρ).put d v := putS_spec ρ d v
theorem op1_spec (hX : ExtOk P X) (hC : CS P C) (hN : dstsOk N ops = true) {o : Oper} {i : Nat} {rest : List Nat} (ho : ops[i]? = some o) {next : T Value → List Deferred → Mem → OpsR}
    (hn : ∀ ρ ds M, (next ρ ds M).holds Kn Kp → AOps P N ops rest (slot ρ) ds M.abs Kn Kp) {ρ : T Value} {ds : List Deferred} {M : Mem} (h : (op1 P X C ops o ρ ds M next).holds Kn Kp) : AOps P N ops (i :: rest) (slot ρ) ds M.abs Kn Kp := by
  unfold op1 at h
  split at h
  · exact h.elim
  · rename_i hg
    rw [doT_eq] at h
    have := hn _ _ _ h
    rw [slot_put] at this
    exact aops_skip hN ho (gd_spec hg Agr.refl) this
  · rename_i hg
    have hw := gd_spec (ρ := slot ρ) (ops := ops) (o := o) hg Agr.refl
    generalize hop : o.op = p at h
    split at h
    · rename_i z xs ts
      split at h
      · split at h
        · exact h.elim
        rename_i v hv
        rw [doV_eq, doT_eq] at h
        have := hn _ _ _ h
        rw [slot_put] at this
        exact aops_val hN ho hw (extR_spec hX hop hv) this
      rename_i g l hc
      rw [doL_eq] at h
      split at h
      · exact h.elim
      · rename_i v M' hr
        rw [doV_eq, doT_eq, doM_eq] at h
        have := hn _ _ _ h
        rw [slot_put] at this
        refine aops_call hN ho hw (calls_spec hop hc) (ACalls.mono (hC _ _ _ _ _ hr) fun e aw' he => ?_)
        obtain ⟨rfl, rfl⟩ := he
        exact this
      · rename_i ch M' hr
        refine aops_call hN ho hw (calls_spec hop hc) (ACalls.mono (hC _ _ _ _ _ hr) fun e aw' he => ?_)
        obtain ⟨rfl, rfl⟩ := he
        exact h
    · rename_i z xs ts
      split at h
      · exact h.elim
      rename_i d hd
      rw [doT_eq] at h
      have := hn _ _ _ h
      rw [slot_put] at this
      exact aops_defer hN ho hw (defers_spec hop hd) this
    · rename_i x
      split at h
      · rename_i u z hx
        obtain ⟨x1, x2⟩ := okv_spec hx
        exact aops_panic hN ho hw (opp_panic hop x1 x2) h
      · exact h.elim
    · split at h
      · exact h.elim
      rename_i v M' hv
      rw [doV_eq, doT_eq, doM_eq] at h
      have := hn _ _ _ h
      rw [slot_put] at this
      exact aops_val hN ho hw (eOp_spec (by rw [hop]; exact hv)) this
theorem ops1_spec (hX : ExtOk P X) (hC : CS P C) (hN : dstsOk N ops = true) : ∀ (l : List Oper) (i : Nat) (ρ : T Value) (ds : List Deferred) (M : Mem), ops.toList.drop i = l → (ops1 P X C ops l ρ ds M).holds Kn Kp → AOps P N ops (List.range' i l.length) (slot ρ) ds M.abs Kn Kp
  | [], i, ρ, ds, M, hl, h => aops_nil h
  | o :: l, i, ρ, ds, M, hl, h => by
    have hi : i < ops.toList.length := by
      rcases Nat.lt_or_ge i ops.toList.length with h | h
      · exact h
      · rw [List.drop_eq_nil_of_le h] at hl; cases hl
    rw [List.drop_eq_getElem_cons hi] at hl
    injection hl with h1 h2
    have ho : ops[i]? = some o := by
      rw [← h1]
      have hi' : i < ops.size := by simpa using hi
      simp [hi']
    exact op1_spec hX hC hN ho (fun ρ ds M h => ops1_spec hX hC hN l (i + 1) ρ ds M h2 h) h
theorem region_spec (hX : ExtOk P X) (hC : CS P C) (hN : dstsOk N ops = true) {ρ : T Value} {ds : List Deferred} {M : Mem} (h : (ops1 P X C ops ops.toList ρ ds M).holds Kn Kp) : AOps P N ops (List.range ops.size) (slot ρ) ds M.abs Kn Kp := by
  have := ops1_spec hX hC hN ops.toList 0 ρ ds M rfl h
  rw [Array.length_toList] at this
  rw [List.range_eq_range']
  exact this
end
noncomputable def hval (P : Program) (ops : Array Oper) (o : Oper) (ρ : Env) (M : Mem) : Option Value := match gd ops ρ o.guard with
  | none => none
  | some false => some undef
  | some true => bif quiet P o.op then (match eOp P ρ M o.op with
    | none => none
    | some (v, _) => some v) else none
theorem hval_spec {P : Program} {ops : Array Oper} {o : Oper} {ρ : Env} {M : Mem} {v : Value} (h : hval P ops o ρ M = some v) : HeadOp P ops o ρ M.abs v := by
  intro ρ' hag
  unfold hval at h
  split at h
  · cases h
  · rename_i hg
    simp only [Option.some.injEq] at h
    exact .inr (.inl ⟨gd_spec hg hag, h.symm⟩)
  · rename_i hg
    rw [cond_some] at h
    obtain ⟨hq, h⟩ := h
    split at h
    · cases h
    rename_i u M' hu
    simp only [Option.some.injEq] at h
    subst h
    obtain rfl := quiet_spec hq hu
    refine .inl ⟨gd_spec hg hag, eOp_spec ?_⟩
    rw [eOp_congr (agr_x hag)]; exact hu
noncomputable def heads (P : Program) (ops : Array Oper) (M : Mem) (hs : List Nat) : T Value → Option (T Value) := List.rec (motive := fun _ => T Value → Option (T Value)) (fun ρ => some ρ)
  (fun i _ ih ρ => match ops[i]? with
    | none => none
    | some o => (match hval P ops o (slot ρ) M with
      | none => none
      | some v => doV v fun v => doT (putS ρ o.dst v) fun ρ => ih ρ)) hs
noncomputable def again (P : Program) (ops : Array Oper) (ρ : Env) (M : Mem) (q : List Nat) : Bool := List.rec (motive := fun _ => Bool) true
  (fun i _ ih => match ops[i]? with
    | none => false
    | some o => (match o.dst with
      | none => false
      | some d => (match hval P ops o ρ M with
        | none => false
        | some v => vEq 8 v (ρ d) && ih))) q
theorem again_spec {P : Program} {ops : Array Oper} {ρ : Env} {M : Mem} : ∀ {q : List Nat}, again P ops ρ M q = true → FFl P ops q ρ M.abs
  | [], _ => fun i hi => by simp at hi
  | i :: q, h => by
    have h : (match ops[i]? with
      | none => false
      | some o => (match o.dst with
        | none => false
        | some d => (match hval P ops o ρ M with
          | none => false
          | some v => vEq 8 v (ρ d) && again P ops ρ M q))) = true := h
    split at h
    · cases h
    rename_i o ho
    split at h
    · cases h
    rename_i d hd
    split at h
    · cases h
    rename_i v hvv
    rename_i h
    rw [Bool.and_eq_true] at h
    obtain ⟨ha, hb⟩ := h
    intro j hj o' ho' d' hd'
    rcases List.mem_cons.1 hj with rfl | hj
    · rw [ho] at ho'
      obtain rfl := Option.some.inj ho'
      rw [hd] at hd'
      obtain rfl := Option.some.inj hd'
      rw [← vEq_spec _ _ _ ha]
      exact hval_spec hvv
    · exact again_spec hb j hj o' ho' d' hd'
theorem heads_spec {P : Program} {ops : Array Oper} {M : Mem} : ∀ {hs : List Nat} {ρ ρ' : T Value}, heads P ops M hs ρ = some ρ' → OffL ops hs (slot ρ) (slot ρ')
  | [], ρ, ρ', h => by
    have h : some ρ = some ρ' := h
    simp only [Option.some.injEq] at h
    subst h
    exact fun _ _ => rfl
  | i :: hs, ρ, ρ', h => by
    have h : (match ops[i]? with
      | none => none
      | some o => (match hval P ops o (slot ρ) M with
        | none => none
        | some v => doV v fun v => doT (putS ρ o.dst v) fun ρ => heads P ops M hs ρ)) = some ρ' := h
    split at h
    · cases h
    rename_i o ho
    split at h
    · cases h
    rename_i v hvv
    rw [doV_eq, doT_eq] at h
    have := heads_spec h
    intro t ht
    rw [this t fun j hj => ht j (by simp [hj]), show slot (putS ρ o.dst v) t = ((show Env from slot ρ).put o.dst v) t from congrFun (putS_spec ρ o.dst v) t]
    have e1 : dstOf ops i = o.dst := by simp [dstOf, ho]
    have hne := ht i (by simp)
    rw [e1] at hne
    cases hd : o.dst with
    | none => rfl
    | some d => rw [put_at, if_neg (fun h => hne (by rw [hd, h]))]
noncomputable def tailR (P : Program) (X : Exts) (C : Caller) (ops : Array Oper) (tl : Tl) : T Value → List Deferred → Mem → OpsR := List.rec (motive := fun _ => T Value → List Deferred → Mem → OpsR) (fun ρ ds M => .norm ρ ds M)
  (fun tq _ ih ρ ds M => match ops[tq.1]? with
    | none => .bad
    | some o => (match o.op with
      | .defer _ => .bad
      | _ => op1 P X C ops o ρ ds M fun ρ ds M => (match heads P ops M tq.2.2 ρ with
        | none => .bad
        | some ρ => bif again P ops (slot ρ) M (tq.2.1 ++ tq.2.2) then ih ρ ds M else .bad))) tl
section
variable {P : Program} {X : Exts} {C : Caller} {N : Nat} {ops : Array Oper} {Kn : Env → List Deferred → AW → Prop} {Kp : List PanicEntry → Env → List Deferred → AW → Prop}
theorem tail_spec (hX : ExtOk P X) (hC : CS P C) : ∀ {tl : Tl} {ρ : T Value} {ds : List Deferred} {M : Mem}, (tailR P X C ops tl ρ ds M).holdsX ops Kn Kp → LinT P ops Kn Kp tl (slot ρ) ds M.abs
  | [], ρ, ds, M, h => h
  | (t, q, nh) :: tl, ρ, ds, M, h => by
    have ih := fun {ρ ds M} => tail_spec hX hC (tl := tl) (ρ := ρ) (ds := ds) (M := M)
    have h : OpsR.holdsX ops Kn Kp (match ops[t]? with
      | none => .bad
      | some o => (match o.op with
        | .defer _ => .bad
        | _ => op1 P X C ops o ρ ds M fun ρ ds M => (match heads P ops M nh ρ with
          | none => .bad
          | some ρ => bif again P ops (slot ρ) M (q ++ nh) then tailR P X C ops tl ρ ds M else .bad))) := h
    split at h
    · exact h.elim
    rename_i o ho
    have nx : ∀ {ρ ds M}, OpsR.holdsX ops Kn Kp (match heads P ops M nh ρ with
        | none => .bad
        | some ρ => bif again P ops (slot ρ) M (q ++ nh) then tailR P X C ops tl ρ ds M else .bad) → ∃ ρ2, OffL ops nh (slot ρ) ρ2 ∧ FFl P ops (q ++ nh) ρ2 M.abs ∧ LinT P ops Kn Kp tl ρ2 ds M.abs := by
      intro ρ ds M h
      split at h
      · exact h.elim
      rename_i ρ2 hh
      cases hb : again P ops (slot ρ2) M (q ++ nh) with
      | false => rw [hb] at h; exact h.elim
      | true => rw [hb] at h; exact ⟨_, heads_spec hh, again_spec hb, ih h⟩
    split at h
    · exact h.elim
    rename_i hnd
    refine ⟨o, ho, ?_⟩
    unfold op1 at h
    split at h
    · exact h.elim
    · rename_i hg
      rw [doT_eq] at h
      have := nx h
      rw [slot_put] at this
      exact .skip (fun ρ' hag => gd_spec hg hag) this
    · rename_i hg
      generalize hop : o.op = p at h
      split at h
      · rename_i z xs ts
        have hxx : ∀ ρ', Agr ops o (slot ρ) ρ' → AgreeX P.globals.size (slot ρ) ρ' (z :: xs) := fun ρ' hag => by
          have hx := agr_x (G := P.globals.size) hag
          rw [hop] at hx
          intro y hy
          refine hx y ?_
          simp only [Op.operands, Call.operands]
          rcases List.mem_cons.1 hy with rfl | hy
          · simp
          · simp; exact .inr hy
        split at h
        · split at h
          · exact h.elim
          rename_i v hv
          rw [doV_eq, doT_eq] at h
          have := nx h
          rw [slot_put] at this
          refine .val (fun ρ' hag => ⟨gd_spec hg hag, extR_spec hX hop ?_⟩) this
          rw [extR_congr (ρ := slot ρ) (hxx ρ' hag)]; exact hv
        rename_i g l hc
        rw [doL_eq] at h
        have hcall : ∀ ρ', Agr ops o (slot ρ) ρ' → wants ops o ρ' true ∧ OpC P o ρ' g l := fun ρ' hag => by
          refine ⟨gd_spec hg hag, calls_spec hop ?_⟩
          rw [calls_congr (ρ := slot ρ)]
          · exact hc
          · have hx := agr_x (G := P.globals.size) hag
            rw [hop] at hx
            intro y hy
            refine hx y ?_
            simp only [Op.operands, Call.operands]
            rcases List.mem_cons.1 hy with rfl | hy
            · simp
            · simp; exact .inr hy
        split at h
        · exact h.elim
        · rename_i v M' hr
          rw [doV_eq, doT_eq, doM_eq] at h
          have := nx h
          rw [slot_put] at this
          refine .call hcall (ACalls.mono (hC _ _ _ _ _ hr) fun e aw' he => ?_)
          obtain ⟨rfl, rfl⟩ := he
          exact this
        · rename_i ch M' hr
          refine .call hcall (ACalls.mono (hC _ _ _ _ _ hr) fun e aw' he => ?_)
          obtain ⟨rfl, rfl⟩ := he
          exact h
      · rename_i z xs ts
        exact absurd hop (hnd _)
      · rename_i x
        split at h
        · rename_i u z hx
          refine .panic (fun ρ' hag => ⟨gd_spec hg hag, ?_⟩) h
          have hx' : okv P.globals.size ρ' x = some (.iface u z) := by
            rw [agr_x (G := P.globals.size) hag x (by rw [hop]; simp [Op.operands])]; exact hx
          obtain ⟨x1, x2⟩ := okv_spec hx'
          exact opp_panic hop x1 x2
        · exact h.elim
      · split at h
        · exact h.elim
        rename_i v M' hv'
        rw [doV_eq, doT_eq, doM_eq] at h
        have := nx h
        rw [slot_put] at this
        refine .val (fun ρ' hag => ⟨gd_spec hg hag, eOp_spec ?_⟩) this
        rw [eOp_congr (agr_x hag), hop]; exact hv'
end
end Go.Ri
set_option linter.unusedSimpArgs false
set_option linter.unusedVariables false
set_option linter.unusedSectionVars false
namespace Go.Ri
open Go Go.Am Go.RowKit
variable [SymE]
variable [FT] [FTok]
noncomputable def drawR (P : Program) (X : Exts) (C : Caller) (ops : Array Oper) (hs : List Nat) (tl : Tl) (ρ : T Value) (ds : List Deferred) (M : Mem) : OpsR := match heads P ops M hs ρ with
  | none => .bad
  | some ρ => bif again P ops (slot ρ) M hs then tailR P X C ops tl ρ ds M else .bad
section
variable {P : Program} {X : Exts} {C : Caller} {N : Nat} {ops : Array Oper}
theorem draw_spec (hX : ExtOk P X) (hC : CS P C) (hm : P.follows .mixedOrders = true) (hN : dstsOk N ops = true) {hs : List Nat} {tl : Tl} (hok : linOk ops hs tl = true) {id : Nat} {k : List Item} {R : ADone → Env → List Deferred → AW → Prop} {ρ : T Value} {ds : List Deferred} {M : Mem}
    (h : (drawR P X C ops hs tl ρ ds M).holdsX ops (fun ρ' ds' aw' => AGo P N k ρ' ds' aw' R) (fun ch ρ' ds' aw' => R (.panic ch) ρ' ds' aw')) : AGo P N (.code (.region id ops true) :: k) (slot ρ) ds M.abs R := by
  unfold drawR at h
  split at h
  · exact h.elim
  rename_i ρ' hh
  cases hb : again P ops (slot ρ') M hs with
  | false => rw [hb] at h; exact h.elim
  | true =>
    rw [hb] at h
    exact ago_drawF rfl hm hN hok (heads_spec hh) (again_spec hb) (tail_spec hX hC h)
end
inductive SR where
  | go (todo : List Item) (ρ : T Value) (ds : List Deferred) (M : Mem)
  | fin (d : ADone) (ρ : T Value) (ds : List Deferred) (M : Mem)
  | bad
abbrev Tab := Nat → Option (List Nat × Tl)
def OpsR.sr (k : List Item) (x : OpsR) : SR := match x with
  | .norm ρ ds M => .go k ρ ds M
  | .pan ch ρ ds M => .fin (.panic ch) ρ ds M
  | .bad => .bad
def offB (rs : List Tmp) (ops : Array Oper) : Bool := rs.all fun t => ops.toList.all fun o => o.dst != some t
noncomputable def step1 (P : Program) (X : Exts) (C : Caller) (N : Nat) (tab : Tab) (rs : List Tmp) (todo : List Item) (ρ : T Value) (ds : List Deferred) (M : Mem) : SR := match todo with
  | [] => .fin .ret ρ ds M
  | .code c :: k => (match c with
    | .skip => .go k ρ ds M
    | .seq x y => .go (.code x :: .code y :: k) ρ ds M
    | .label _ => .go k ρ ds M
    | .block id c => .go (.code c :: .inBlock id :: k) ρ ds M
    | .loop c => .go (.code c :: .inLoop c :: k) ρ ds M
    | .scope c => .go (.code c :: .inScope c :: k) ρ ds M
    | .exit id => (match exitTo id k with
      | some k => .go k ρ ds M
      | none => .bad)
    | .goto l => (match gotoIn l k with
      | some k => .go k ρ ds M
      | none => .bad)
    | .cond c x y => (match okv P.globals.size (slot ρ) c with
      | some (.bool true) => .go (.code x :: k) ρ ds M
      | some (.bool false) => .go (.code y :: k) ρ ds M
      | _ => .bad)
    | .ret => .fin .ret ρ ds M
    | .region id ops draw => bif dstsOk N ops then (match draw with
        | false => (ops1 P X C ops ops.toList ρ ds M).sr k
        | true => (match tab id with
          | none => .bad
          | some (hs, tl) => bif linOk ops hs tl then (match drawR P X C ops hs tl ρ ds M with
              | .norm ρ ds M => .go k ρ ds M
              | .pan ch ρ ds M => bif offB rs ops then .fin (.panic ch) ρ ds M else .bad
              | .bad => .bad) else .bad)) else .bad
    | _ => .bad)
  | .inBlock _ :: k => .go k ρ ds M
  | .inLoop c :: k => .go (.code c :: .inLoop c :: k) ρ ds M
  | .inScope _ :: k => .go k ρ ds M
  | _ => .bad
def SR.holds (P : Program) (N : Nat) (rs : List Tmp) (R : ADone → Env → List Deferred → AW → Prop) : SR → Prop
  | .go todo ρ ds M => AGo P N todo (slot ρ) ds M.abs R
  | .fin d ρ ds M => ∀ ρ' : Env, (∀ t ∈ rs, ρ' t = slot ρ t) → R d ρ' ds M.abs
  | .bad => False
section
variable {P : Program} {X : Exts} {C : Caller} {N : Nat} {tab : Tab} {rs : List Tmp} {R : ADone → Env → List Deferred → AW → Prop}
theorem step1_spec (hX : ExtOk P X) (hC : CS P C) (hm : P.follows .mixedOrders = true) {todo : List Item} {ρ : T Value} {ds : List Deferred} {M : Mem} (h : (step1 P X C N tab rs todo ρ ds M).holds P N rs R) : AGo P N todo (slot ρ) ds M.abs R := by
  unfold step1 at h
  split at h
  · exact ago_nil (h _ fun _ _ => rfl)
  · rename_i c k
    split at h
    · exact ago_skip h
    · exact ago_seq h
    · exact ago_label h
    · exact ago_block h
    · exact ago_loop h
    · exact ago_scope h
    · split at h
      · rename_i hk; exact ago_exit hk h
      · exact h.elim
    · split at h
      · rename_i hk; exact ago_goto hk h
      · exact h.elim
    · split at h
      · rename_i hc
        obtain ⟨c1, c2⟩ := okv_spec hc
        exact ago_cond c1 c2 (fun _ => h) (fun h => by cases h)
      · rename_i hc
        obtain ⟨c1, c2⟩ := okv_spec hc
        exact ago_cond c1 c2 (fun h => by cases h) (fun _ => h)
      · exact h.elim
    · exact ago_ret (h _ fun _ _ => rfl)
    · rename_i id ops draw
      cases hN : dstsOk N ops with
      | false => rw [hN] at h; exact h.elim
      | true =>
        rw [hN] at h
        simp only [cond_true] at h
        split at h
        · refine ago_region rfl (region_spec hX hC hN ?_)
          generalize ops1 P X C ops ops.toList ρ ds M = x at h
          cases x with
          | norm ρ ds M => exact h
          | pan ch ρ ds M => exact h _ fun _ _ => rfl
          | bad => exact h
        · split at h
          · exact h.elim
          rename_i hs tl ht
          cases hb : linOk ops hs tl with
          | false => rw [hb] at h; exact h.elim
          | true =>
            rw [hb] at h
            simp only [cond_true] at h
            refine draw_spec hX hC hm hN hb ?_
            generalize drawR P X C ops hs tl ρ ds M = x at h
            cases x with
            | norm ρ ds M => exact h
            | pan ch ρ ds M =>
              cases ho : offB rs ops with
              | false => simp only [ho, cond_false] at h; exact h.elim
              | true =>
                simp only [ho, cond_true] at h
                intro ρ' hoff
                refine h ρ' fun t ht => hoff t fun j hj => ?_
                simp only [offB, List.all_eq_true] at ho
                have hd := ho t ht
                unfold dstOf at hj
                cases hoj : ops[j]? with
                | none => rw [hoj] at hj; cases hj
                | some o =>
                  rw [hoj] at hj
                  have := hd o (by rw [Array.mem_toList_iff]; exact Array.mem_of_getElem? hoj)
                  simp only [Option.bind_some] at hj
                  rw [hj] at this
                  simp at this
            | bad => exact h.elim
    · exact h.elim
  · exact ago_inBlock h
  · exact ago_inLoop h
  · exact ago_inScope h
  · exact h.elim
noncomputable def iter (f : List Item → T Value → List Deferred → Mem → SR) (n : Nat) : List Item → T Value → List Deferred → Mem → SR := Nat.rec (motive := fun _ => List Item → T Value → List Deferred → Mem → SR) f
  (fun _ ih a b c d => SR.rec (motive := fun _ => SR) (fun a b c d => ih a b c d) (fun d ρ ds M => .fin d ρ ds M) .bad (ih a b c d)) n
theorem iter_spec {f : List Item → T Value → List Deferred → Mem → SR} (hf : ∀ todo ρ ds M, (f todo ρ ds M).holds P N rs R → AGo P N todo (slot ρ) ds M.abs R) : ∀ (n : Nat) (todo : List Item) (ρ : T Value) (ds : List Deferred) (M : Mem),
    (iter f n todo ρ ds M).holds P N rs R → AGo P N todo (slot ρ) ds M.abs R
  | 0, todo, ρ, ds, M, h => hf _ _ _ _ h
  | n + 1, todo, ρ, ds, M, h => by
    have h : (SR.rec (motive := fun _ => SR) (fun a b c d => iter f n a b c d) (fun d ρ ds M => .fin d ρ ds M) .bad (iter f n todo ρ ds M) : SR).holds P N rs R := h
    refine iter_spec hf n _ _ _ _ ?_
    cases hx : iter f n todo ρ ds M with
    | go a b c d =>
      rw [hx] at h
      exact iter_spec hf n _ _ _ _ h
    | fin d ρ' ds' M' => rw [hx] at h; exact h
    | bad => rw [hx] at h; exact h
end
noncomputable def res1 (P : Program) (ρ : Env) (M : Mem) : ResultVar → Option Value
  | .tmp t => some (ρ t)
  | .cell a t => (match ρ a with
    | .pointer (some ⟨b, i, none⟩) => (match P.underlying t with
      | none => none
      | some d => bif aggT d then (match (P.info? t).map (·.size) with
          | none => none
          | some n => (match M.getN b i n with
            | none => none
            | some l => some (.agg ⟨l⟩)))
        else M.get b i)
    | _ => none)
theorem res1_spec {P : Program} {ρ : Env} {M : Mem} {r : ResultVar} {v : Value} (h : res1 P ρ M r = some v) : OneR P ρ M.abs r v := by
  cases r with
  | tmp t => simp only [res1, Option.some.injEq] at h; exact oneT h
  | cell a t =>
    simp only [res1] at h
    split at h
    · rename_i b i ha
      split at h
      · cases h
      rename_i d hu
      cases hag : aggT d with
      | true =>
        rw [hag] at h
        simp only [cond_true] at h
        split at h
        · cases h
        rename_i n hn
        split at h
        · cases h
        rename_i l hl
        simp only [Option.some.injEq] at h; subst h
        exact oneN ha rfl hu hag hn (M.getN_spec hl)
      | false =>
        rw [hag] at h
        simp only [cond_false] at h
        exact one1 ha rfl hu hag (M.get_spec h)
    · cases h
def rSlot : ResultVar → Tmp
  | .tmp t => t
  | .cell a _ => a
theorem res1_congr {P : Program} {ρ ρ' : Env} {M : Mem} {r : ResultVar} (h : ρ' (rSlot r) = ρ (rSlot r)) : res1 P ρ' M r = res1 P ρ M r := by
  cases r with
  | tmp t => simp only [res1, rSlot] at h ⊢; rw [h]
  | cell a t => simp only [res1, rSlot] at h ⊢; rw [h]
noncomputable def resF (P : Program) (fn : Func) (ρ : Env) (M : Mem) : Option Value := match fn.results with
  | ⟨[]⟩ => some (.tuple ⟨[]⟩)
  | ⟨[a]⟩ => res1 P ρ M a
  | ⟨[a, b]⟩ => (match res1 P ρ M a, res1 P ρ M b with
    | some u, some v => some (.tuple ⟨[u, v]⟩)
    | _, _ => none)
  | ⟨[a, b, c]⟩ => (match res1 P ρ M a, res1 P ρ M b, res1 P ρ M c with
    | some u, some v, some w => some (.tuple ⟨[u, v, w]⟩)
    | _, _, _ => none)
  | ⟨[a, b, c, d]⟩ => (match res1 P ρ M a, res1 P ρ M b, res1 P ρ M c, res1 P ρ M d with
    | some u, some v, some w, some x => some (.tuple ⟨[u, v, w, x]⟩)
    | _, _, _, _ => none)
  | _ => none
def rSlots (fn : Func) : List Tmp := fn.results.toList.map rSlot
theorem resF_spec {P : Program} {fn : Func} {N : Nat} {ρ ρ' : Env} {M : Mem} {v : Value} (h : resF P fn ρ M = some v) (hr : ∀ t ∈ rSlots fn, ρ' t = ρ t) : ARes P fn N ρ' M.abs v := by
  unfold resF at h
  have one : ∀ r u, r ∈ fn.results.toList → res1 P ρ M r = some u → OneR P ρ' M.abs r u := fun r u hm hu => by
    refine res1_spec ?_
    rw [res1_congr (ρ := ρ) (hr _ (List.mem_map.2 ⟨r, hm, rfl⟩))]
    exact hu
  split at h
  · rename_i hf
    simp only [Option.some.injEq] at h; subst h
    exact ares_0 hf
  · rename_i a hf
    exact ares_1 hf (one a _ (by rw [hf]; simp) h)
  · rename_i a b hf
    split at h
    · rename_i u w h1 h2
      simp only [Option.some.injEq] at h; subst h
      exact ares_2 hf (one a _ (by rw [hf]; simp) h1) (one b _ (by rw [hf]; simp) h2)
    · cases h
  · rename_i a b c hf
    split at h
    · rename_i u w x h1 h2 h3
      simp only [Option.some.injEq] at h; subst h
      exact ares_3 hf (one a _ (by rw [hf]; simp) h1) (one b _ (by rw [hf]; simp) h2) (one c _ (by rw [hf]; simp) h3)
    · cases h
  · rename_i a b c d hf
    split at h
    · rename_i u w x y h1 h2 h3 h4
      simp only [Option.some.injEq] at h; subst h
      exact ares_4 hf (one a _ (by rw [hf]; simp) h1) (one b _ (by rw [hf]; simp) h2) (one c _ (by rw [hf]; simp) h3) (one d _ (by rw [hf]; simp) h4)
    · cases h
  · cases h
abbrev CallerD := FuncId → List Value → ADone → Mem → Option (AEnd × ADone × Mem)
def CDS (P : Program) (D : CallerD) : Prop := ∀ f args u M e u' M', D f args u M = some (e, u', M') → ACallsD P f args u M.abs fun e' u'' aw' => e' = e ∧ u'' = u' ∧ aw' = M'.abs
noncomputable def leave (P : Program) (fn : Func) (D : CallerD) (ρ : T Value) (ds : List Deferred) : ADone → Mem → Option (AEnd × Mem) := List.rec (motive := fun _ => ADone → Mem → Option (AEnd × Mem))
  (fun u M => match u with
    | .ret => (match resF P fn (slot ρ) M with
      | some v => some (.returned v, M)
      | none => none)
    | .panic ch => some (.panicked ch, M))
  (fun d _ ih u M => match d.target with
    | .fn (.func g) ⟨cap⟩ => bif fnOk P g then (match D g (d.args.toList ++ cap) u M with
      | some (.returned _, u', M') => ih (asettle u') M'
      | some (.panicked ch, u', M') => ih (araised u' ch) M'
      | none => none) else none
    | _ => none) ds
theorem leave_spec {P : Program} {fn : Func} {D : CallerD} {N : Nat} (hD : CDS P D) {ρ : T Value} {ρ' : Env} (hr : ∀ t ∈ rSlots fn, ρ' t = slot ρ t) {e : AEnd} {M' : Mem} : ∀ {ds : List Deferred} {u : ADone} {M : Mem}, leave P fn D ρ ds u M = some (e, M') →
    ALeaves P fn N ρ' (fun e' aw' => e' = e ∧ aw' = M'.abs) ds u M.abs
  | [], .ret, M, h => by
    have h : (match resF P fn (slot ρ) M with
      | some v => some (AEnd.returned v, M)
      | none => none) = some (e, M') := h
    split at h
    · rename_i v hv
      simp only [Option.some.injEq, Prod.mk.injEq] at h
      obtain ⟨rfl, rfl⟩ := h
      exact ⟨v, resF_spec hv hr, rfl, rfl⟩
    · cases h
  | [], .panic ch, M, h => by
    have h : some (AEnd.panicked ch, M) = some (e, M') := h
    simp only [Option.some.injEq, Prod.mk.injEq] at h
    obtain ⟨rfl, rfl⟩ := h
    exact ⟨rfl, rfl⟩
  | d :: ds, u, M, h => by
    have ih := fun {u M} => leave_spec (N := N) hD hr (e := e) (M' := M') (ds := ds) (u := u) (M := M)
    have h : (match d.target with
      | .fn (.func g) ⟨cap⟩ => bif fnOk P g then (match D g (d.args.toList ++ cap) u M with
        | some (.returned _, u', M') => leave P fn D ρ ds (asettle u') M'
        | some (.panicked ch, u', M') => leave P fn D ρ ds (araised u' ch) M'
        | none => none) else none
      | _ => none) = some (e, M') := h
    split at h
    · rename_i g cap htar
      rw [cond_some] at h
      obtain ⟨hf, h⟩ := h
      obtain ⟨fn', c, f1, f2, f3⟩ := fnOk_spec hf
      refine ⟨g, ⟨cap⟩, htar, ⟨fn', c, f1, f2, f3⟩, ?_⟩
      split at h
      · rename_i v u' M2 hd
        refine ACallsD.mono (hD _ _ _ _ _ _ _ hd) fun e' u'' aw' hh => ?_
        obtain ⟨rfl, rfl, rfl⟩ := hh
        exact ih h
      · rename_i ch u' M2 hd
        refine ACallsD.mono (hD _ _ _ _ _ _ _ hd) fun e' u'' aw' hh => ?_
        obtain ⟨rfl, rfl, rfl⟩ := hh
        exact ih h
      · cases h
    · cases h
noncomputable def sil (n : Nat) : List Item → List Item := Nat.rec (motive := fun _ => List Item → List Item) (fun l => l) (fun _ ih l => match l with
  | .code (.seq x y) :: k => ih (.code x :: .code y :: k)
  | .code (.block id c) :: k => ih (.code c :: .inBlock id :: k)
  | .code (.scope c) :: k => ih (.code c :: .inScope c :: k)
  | .code .skip :: k => ih k
  | l => l) n
theorem sil_spec : ∀ (n : Nat) (l : List Item), Silent l (sil n l)
  | 0, l => .refl l
  | n + 1, l => by
    have ih := sil_spec n
    show Silent l (match l with
      | .code (.seq x y) :: k => sil n (.code x :: .code y :: k)
      | .code (.block id c) :: k => sil n (.code c :: .inBlock id :: k)
      | .code (.scope c) :: k => sil n (.code c :: .inScope c :: k)
      | .code .skip :: k => sil n k
      | l => l)
    split
    · exact .seq (ih _)
    · exact .block (ih _)
    · exact .scope (ih _)
    · exact .skip (ih _)
    · exact .refl _
noncomputable def endD (P : Program) (fn : Func) (u : ADone) (x : SR) : Option (AEnd × ADone × Mem) := match x with
  | .fin .ret ρ [] M => (match resF P fn (slot ρ) M with
    | some v => some (.returned v, u, M)
    | none => none)
  | .fin (.panic ch) _ [] M => some (.panicked ch, u, M)
  | _ => none
noncomputable def callD (P : Program) (X : Exts) (C : Caller) (tab : Nat → Tab) (n : Nat) : CallerD := fun f args u M => match P.funcs[f]? with
  | none => none
  | some fn => (match fn.body with
    | none => none
    | some c => bif Nat.ble args.length fn.ntmps then (match sil 40 [.code c] with
      | .code (.region id ops false) :: k => (match ops with
        | ⟨o :: rest⟩ => (match o with
          | ⟨dst, .call ⟨.builtin .recover, ⟨[]⟩, _⟩, _, _, _, none⟩ => bif dstsOk fn.ntmps ops then
              doV (recovers u).1 fun v => doT (putS (T.ofL args 0 .leaf) dst v) fun ρ => (match ops1 P X C ops rest ρ [] M with
                | .norm ρ ds M => endD P fn (recovers u).2 (iter (step1 P X C fn.ntmps (tab f) (rSlots fn)) n k ρ ds M)
                | .pan ch ρ ds M => endD P fn (recovers u).2 (.fin (.panic ch) ρ ds M)
                | .bad => none) else none
          | _ => endD P fn u (iter (step1 P X C fn.ntmps (tab f) (rSlots fn)) n [.code c] (T.ofL args 0 .leaf) [] M))
        | ⟨[]⟩ => endD P fn u (iter (step1 P X C fn.ntmps (tab f) (rSlots fn)) n [.code c] (T.ofL args 0 .leaf) [] M))
      | _ => endD P fn u (iter (step1 P X C fn.ntmps (tab f) (rSlots fn)) n [.code c] (T.ofL args 0 .leaf) [] M)) else none)
theorem slot_init (args : List Value) : slot (T.ofL args 0 .leaf) = Env.init args := by
  funext t
  simp only [slot, T.get_ofL, Env.init]
  by_cases h : t < args.length
  · rw [if_pos ⟨Nat.zero_le _, by omega⟩]
    simp [List.getD, h]
  · rw [if_neg (by omega)]
    simp [List.getD, List.getElem?_eq_none (Nat.le_of_not_lt h), T.get_leaf]
theorem endD_spec {P : Program} {fn : Func} {N : Nat} {u : ADone} {x : SR} {e : AEnd} {u' : ADone} {M' : Mem} (h : endD P fn u x = some (e, u', M')) : u' = u ∧
    x.holds P N (rSlots fn) (fun d ρ ds aw' => ds = [] ∧ match d with
      | .ret => ∃ v, ARes P fn N ρ aw' v ∧ (AEnd.returned v = e ∧ aw' = M'.abs)
      | .panic ch => AEnd.panicked ch = e ∧ aw' = M'.abs) := by
  unfold endD at h
  split at h
  · split at h
    · rename_i v hv
      simp only [Option.some.injEq, Prod.mk.injEq] at h
      obtain ⟨rfl, rfl, rfl⟩ := h
      exact ⟨rfl, fun ρ' hr => ⟨rfl, v, resF_spec hv hr, rfl, rfl⟩⟩
    · cases h
  · simp only [Option.some.injEq, Prod.mk.injEq] at h
    obtain ⟨rfl, rfl, rfl⟩ := h
    exact ⟨rfl, fun ρ' hr => ⟨rfl, rfl, rfl⟩⟩
  · cases h
theorem callD_spec {P : Program} {X : Exts} {C : Caller} {tab : Nat → Tab} {n : Nat} (hX : ExtOk P X) (hC : CS P C) (hm : P.follows .mixedOrders = true) : CDS P (callD P X C tab n) := by
  intro f args u M e u' M' h
  unfold callD at h
  split at h
  · cases h
  rename_i fn hf
  split at h
  · cases h
  rename_i c hb
  rw [cond_some] at h
  obtain ⟨hl, h⟩ := h
  have hl := Nat.le_of_ble_eq_true hl
  have plainD : endD P fn u (iter (step1 P X C fn.ntmps (tab f) (rSlots fn)) n [.code c] (T.ofL args 0 .leaf) [] M) = some (e, u', M') → ACallsD P f args u M.abs fun e' u'' aw' => e' = e ∧ u'' = u' ∧ aw' = M'.abs := by
    intro h
    obtain ⟨rfl, hx⟩ := endD_spec (N := fn.ntmps) h
    refine acallsD_of_ago hf hb rfl hl ?_
    have := iter_spec (fun todo ρ ds M h => step1_spec hX hC hm h) n _ _ _ _ hx
    rw [slot_init] at this
    refine ago_mono ?_ this
    rintro d ρ ds aw ⟨h1, h2⟩
    refine ⟨h1, ?_⟩
    cases d with
    | ret => obtain ⟨v, k1, k2, k3⟩ := h2; exact ⟨v, k1, k2, rfl, k3⟩
    | panic ch => exact ⟨h2.1, rfl, h2.2⟩
  split at h
  · rename_i id ops k hsil
    split at h
    · rename_i o rest
      split at h
      · rename_i dst at' ty pos after
        rw [cond_some] at h
        obtain ⟨hN, h⟩ := h
        rw [doV_eq, doT_eq] at h
        have hs := sil_spec 40 [.code c]
        rw [hsil] at hs
        have hu : ∀ {x : SR}, endD P fn (recovers u).2 x = some (e, u', M') → u' = (recovers u).2 := fun h => (endD_spec (N := fn.ntmps) h).1
        refine acallsD_recover (o := ⟨dst, .call ⟨.builtin .recover, ⟨[]⟩, at'⟩, ty, pos, after, none⟩) (rest := List.range' 1 rest.length) hf hb rfl hl hs ?_ rfl rfl rfl ?_ ?_
        · rw [List.range_eq_range']
          simp only [List.size_toArray, List.length_cons]
          rfl
        · intro d hd
          exact dstsOk_get (N := fn.ntmps) hN (j := 0) (by simpa using hd)
        · refine ago_inRegion ?_
          rw [← slot_init, ← slot_put]
          refine ops1_spec hX hC hN rest 1 _ _ _ rfl ?_
          split at h
          · rename_i ρ2 ds2 M2 hx
            rw [hx]
            obtain ⟨rfl, hh⟩ := endD_spec (N := fn.ntmps) h
            have := iter_spec (fun todo ρ ds M h => step1_spec hX hC hm h) n _ _ _ _ hh
            refine ago_mono ?_ this
            rintro d ρ ds aw ⟨h1, h2⟩
            refine ⟨h1, ?_⟩
            cases d with
            | ret => obtain ⟨v, k1, k2, k3⟩ := h2; exact ⟨v, k1, k2, rfl, k3⟩
            | panic ch => exact ⟨h2.1, rfl, h2.2⟩
          · rename_i ch ρ2 ds2 M2 hx
            rw [hx]
            obtain ⟨rfl, hh⟩ := endD_spec (N := fn.ntmps) h
            obtain ⟨h1, h2⟩ := hh _ fun _ _ => rfl
            exact ⟨h1, h2.1, rfl, h2.2⟩
          · cases h
      · exact plainD h
    · exact plainD h
  · exact plainD h
where
  ago_mono {P : Program} {N : Nat} {todo : List Item} {ρ : Env} {ds : List Deferred} {aw : AW} {R R' : ADone → Env → List Deferred → AW → Prop} (hr : ∀ d ρ ds aw, R d ρ ds aw → R' d ρ ds aw) (h : AGo P N todo ρ ds aw R) : AGo P N todo ρ ds aw R' := by
    intro base w0 s a w b cs hst
    obtain ⟨m, t', a', w', h1, s', d, ρ', ds', aw', h2, h3, h4, h5⟩ := h base w0 s a w b cs hst
    exact ⟨m, t', a', w', h1, s', d, ρ', ds', aw', h2, h3, h4, hr _ _ _ _ h5⟩
end Go.Ri
set_option linter.unusedSimpArgs false
set_option linter.unusedVariables false
set_option linter.unusedSectionVars false
namespace Go.Am
open Go Go.RowKit
variable [SymE]
structure Makes (P : Program) (o : Oper) (cells : List Value) (elem esz : Nat) (mk : Nat → Value) : Prop where
  pl : plains cells = true
  run : ∀ (f : Operand → Value) (w : World), (execOp f o).run P w = .ok (.value (mk w.heap.size)) (w.alloc (.cells cells.toArray elem (0, 0)))
  vr : ∀ (s : Inj) (b : Nat) (e : Ent), s b = some e → e.off = 0 → VR s (mk b) (mk e.cb)
section
variable {G : Nat} {base : Nat → Prop} {w0 : World} {s : Inj} {aw : AW} {w : World}
theorem Rel.cbLt (h : Rel G base w0 s aw w) {b : Nat} {B : Blk} {e : Ent} (hb : aw.m b = some B) (he : s b = some e) : e.cb < w.heap.size := by
  obtain ⟨e', cs', fz', h1, _, h3, _⟩ := h.blk b B hb
  rw [he] at h1; obtain rfl := Option.some.inj h1
  exact (Array.getElem?_eq_some_iff.1 h3).1
theorem Rel.attach (h : Rel G base w0 s aw w) {cells : List Value} (elem esz : Nat) (hp : plains cells = true) {cb : Nat} (hcb : w.heap[cb]? = some (.cells cells.toArray elem (0, 0))) (hb : ¬ base cb)
    (hs : ∀ b B e, aw.m b = some B → s b = some e → e.cb ≠ cb) :
    ∃ s', s.le s' ∧ s' aw.next = some ⟨cb, 0, cells.length, esz⟩ ∧ Rel G base w0 s' (aw.alloc cells elem esz) w := by
  refine ⟨fun b => if b = aw.next then some ⟨cb, 0, cells.length, esz⟩ else s b, ?_, by simp, ?_⟩
  · intro b e hb
    have hne : b ≠ aw.next := by
      rintro rfl
      rw [h.fresh _ (Nat.le_refl _)] at hb; simp at hb
    simpa [hne] using hb
  have hle : s.le (fun b => if b = aw.next then some ⟨cb, 0, cells.length, esz⟩ else s b) := by
    intro b e hb
    have hne : b ≠ aw.next := by
      rintro rfl
      rw [h.fresh _ (Nat.le_refl _)] at hb; simp at hb
    simpa [hne] using hb
  refine ⟨?_, ?_, ?_, ?_, h.hbase, ?_, h.below⟩
  · intro b hb
    have hb' : aw.next + 1 ≤ b := hb
    simp only [if_neg (show ¬ b = aw.next by omega)]
    exact h.fresh b (by omega)
  · intro b hb
    have hb' : aw.next + 1 ≤ b := hb
    simp only [AW.alloc, if_neg (show ¬ b = aw.next by omega)]
    exact h.mfresh b (by omega)
  · intro b B hb'
    simp only [AW.alloc] at hb'
    by_cases hbn : b = aw.next
    · subst hbn
      simp only [if_true, Option.some.injEq] at hb'
      subst hb'
      refine ⟨⟨cb, 0, cells.length, esz⟩, cells.toArray, (0, 0), by simp, ⟨rfl, fun _ => rfl, fun _ => ⟨rfl, rfl⟩⟩, hcb, by simp, by simp, ?_, ?_⟩
      · intro i v hi
        have hv : VRs s cells cells := VRs.ofPlains hp
        obtain ⟨v', a1, a2⟩ := hv.get hi
        exact ⟨v', by simpa using a1, a2.mono hle⟩
      · intro _
        exact ⟨hb, fun j h1 h2 => by simp⟩
    · simp only [if_neg hbn] at hb'
      obtain ⟨e, cs', fz', h1, h2, h3, h4, h5, h6, h7⟩ := h.blk b B hb'
      refine ⟨e, cs', fz', by simpa [hbn] using h1, h2, h3, h4, h5, ?_, h7⟩
      intro i v hi
      obtain ⟨v', k1, k2⟩ := h6 i v hi
      exact ⟨v', k1, k2.mono hle⟩
  · intro b1 b2 B1 B2 e1 e2 hne hb1 hb2 he1 he2 hrw
    simp only [AW.alloc] at hb1 hb2
    by_cases h1 : b1 = aw.next
    · subst h1
      have h2 : ¬ b2 = aw.next := fun e => hne e.symm
      simp only [if_true, Option.some.injEq, if_neg h2] at he1 he2 hb2
      subst he1
      exact fun e => hs b2 B2 e2 hb2 he2 e.symm
    · simp only [if_neg h1] at hb1 he1
      by_cases h2 : b2 = aw.next
      · subst h2
        simp only [if_true, Option.some.injEq] at he2
        subst he2
        exact hs b1 B1 e1 hb1 he1
      · simp only [if_neg h2] at hb2 he2
        exact h.sep b1 b2 B1 B2 e1 e2 hne hb1 hb2 he1 he2 hrw
  · intro g hg
    obtain ⟨e, h1, h2, h3⟩ := h.glob g hg
    exact ⟨e, hle g e h1, h2, h3⟩
theorem Rel.grow (h : Rel G base w0 s aw w) (o : Obj) : Rel G base w0 s aw (w.alloc o) := by
  refine ⟨h.fresh, h.mfresh, ?_, h.sep, fun k hk => ?_, h.glob, h.below.alloc h.hbase o⟩
  · intro b B hb
    obtain ⟨e, cs', fz', h1, h2, h3, h4⟩ := h.blk b B hb
    refine ⟨e, cs', fz', h1, h2, ?_, h4⟩
    have := (Array.getElem?_eq_some_iff.1 h3).1
    show (w.heap.push _)[e.cb]? = _
    rw [Array.getElem?_push, if_neg (by omega)]
    exact h3
  · have := h.hbase k hk
    show k < (w.heap.push _).size
    simp; omega
theorem Rel.less {bx : Nat → Prop} (h : Rel G bx w0 s aw w) (hb : ∀ k, base k → bx k) : Rel G base w0 s aw w :=
  ⟨h.fresh, h.mfresh, fun b B hB => by
    obtain ⟨e, cs', fz', h1, h2, h3, h4, h5, h6, h7⟩ := h.blk b B hB
    exact ⟨e, cs', fz', h1, h2, h3, h4, h5, h6, fun hr => ⟨fun hk => (h7 hr).1 (hb _ hk), (h7 hr).2⟩⟩, h.sep, fun k hk => h.hbase k (hb k hk), h.glob, h.below.mono hb⟩
theorem Rel.keepOne (h : Rel G base w0 s aw w) {cb : Nat} (hc : cb < w.heap.size) (hs : ∀ b B e, aw.m b = some B → B.rw = true → s b = some e → e.cb ≠ cb) : Rel G (fun k => base k ∨ k = cb) w s aw w :=
  ⟨h.fresh, h.mfresh, fun b B hB => by
    obtain ⟨e, cs', fz', h1, h2, h3, h4, h5, h6, h7⟩ := h.blk b B hB
    refine ⟨e, cs', fz', h1, h2, h3, h4, h5, h6, fun hr => ⟨fun hk => ?_, (h7 hr).2⟩⟩
    rcases hk with hk | hk
    · exact (h7 hr).1 hk
    · exact hs b B e hB hr h1 hk, h.sep, fun k hk => hk.elim (h.hbase k) (fun e => e ▸ hc), h.glob, Keep.refl _ _⟩
end
section
variable {P : Program} {N : Nat} {ops : Array Oper} {i : Nat} {o : Oper} {K : Act → World → Prop} {Q : Exit → Act → World → Prop} {a â : Act} {w : World}
  {base bx : Nat → Prop} {w0 : World} {s1 : Inj} {ρ : Env} {ds : List Deferred} {aw aw' : AW} {v : Value}
theorem gen_val (ho : ops[i]? = some o) (hN : dstsOk N ops = true) (hst : St P.globals.size base w0 s1 ρ N ds aw â w) (hx : Rel P.globals.size bx w s1 aw w) (hb : ∀ k, base k → bx k)
    (hE : execOp a.eval o = execOp â.eval o) (hW : Region.wanted o (yielded ops a.tmps) = Region.wanted o (yielded ops â.tmps)) (hg : wants ops o ρ true) (hv : OpV P o ρ aw v aw')
    (hk : ∀ s' v' w', s1.le s' → St P.globals.size base w0 s' (ρ.put o.dst v) N ds aw' (â.put o.dst v') w' → Rel P.globals.size bx w s' aw' w' → K (a.put o.dst v') w') : wpOp P ops Q i K a w := by
  have hsz : ∀ (j t : Nat), (ops[j]?).bind (fun (o : Oper) => o.dst) = some t → t < â.tmps.size := fun j t hj => by rw [hst.size]; exact dstsOk_get hN hj
  have hd : ∀ d, o.dst = some d → d < N := fun d hd => dstsOk_get hN (j := i) (by simp [ho, hd])
  have hw := wants_spec hst.env hg hsz
  simp only [wpOp, ho, hW, if_pos hw]
  left
  obtain ⟨n, v', w', s', k1, k2, k3, k4, k5⟩ := hv bx w s1 â.eval w hx (fun x hx => hst.eval hx)
  have := hk s' v' w' k3 (hst.put k3 (k4.less hb) hd k5) k4
  unfold Oper.wp
  rw [hE, k1]
  rcases k2 with rfl | ⟨rfl, rfl⟩
  · exact this
  · exact this
theorem gen_skip (ho : ops[i]? = some o) (hN : dstsOk N ops = true) (hst : St P.globals.size base w0 s1 ρ N ds aw â w) (hx : Rel P.globals.size bx w s1 aw w)
    (hW : Region.wanted o (yielded ops a.tmps) = Region.wanted o (yielded ops â.tmps)) (hg : wants ops o ρ false)
    (hk : St P.globals.size base w0 s1 (ρ.put o.dst undef) N ds aw (â.put o.dst undef) w → K (a.put o.dst undef) w) : wpOp P ops Q i K a w := by
  have hsz : ∀ (j t : Nat), (ops[j]?).bind (fun (o : Oper) => o.dst) = some t → t < â.tmps.size := fun j t hj => by rw [hst.size]; exact dstsOk_get hN hj
  have hd : ∀ d, o.dst = some d → d < N := fun d hd => dstsOk_get hN (j := i) (by simp [ho, hd])
  have hw := wants_spec hst.env hg hsz
  simp only [wpOp, ho, hW, hw]
  exact hk (hst.put (Inj.le_refl s1) hst.rel.re hd VR.undef)
theorem gen_call {fid : FuncId} {args : List Value} {R : Value → AW → Prop} (ho : ops[i]? = some o) (hN : dstsOk N ops = true) (hst : St P.globals.size base w0 s1 ρ N ds aw â w) (hx : Rel P.globals.size bx w s1 aw w) (hb : ∀ k, base k → bx k)
    (hE : execOp a.eval o = execOp â.eval o) (hW : Region.wanted o (yielded ops a.tmps) = Region.wanted o (yielded ops â.tmps)) (hg : wants ops o ρ true) (hc : OpC P o ρ fid args)
    (hcall : ACalls P fid args aw fun | .returned v, aw' => R v aw' | .panicked _, _ => False)
    (hk : ∀ s' v v' aw' w', R v aw' → s1.le s' → St P.globals.size base w0 s' (ρ.put o.dst v) N ds aw' (â.put o.dst v') w' → Rel P.globals.size bx w s' aw' w' → K (a.put o.dst v') w') : wpOp P ops Q i K a w := by
  have hsz : ∀ (j t : Nat), (ops[j]?).bind (fun (o : Oper) => o.dst) = some t → t < â.tmps.size := fun j t hj => by rw [hst.size]; exact dstsOk_get hN hj
  have hd : ∀ d, o.dst = some d → d < N := fun d hd => dstsOk_get hN (j := i) (by simp [ho, hd])
  have hw := wants_spec hst.env hg hsz
  simp only [wpOp, ho, hW, if_pos hw]
  left
  obtain ⟨args', k1, k2⟩ := hc s1 â.eval w (fun x hx => hst.eval hx)
  unfold Oper.wp
  rw [hE, k1]
  refine (hcall bx w s1 args' w hx k2).mono ?_
  rintro e w' ⟨s', ae, aw2, hle, hrel, her, hq⟩
  cases her with
  | returned hvv => exact hk s' _ _ aw2 w' hq hle (hst.put hle (hrel.less hb) hd hvv) hrel
  | panicked _ => exact hq.elim
end
end Go.Am
set_option linter.unusedSimpArgs false
set_option linter.unusedVariables false
set_option linter.unusedSectionVars false
namespace Go.Am
open Go Go.RowKit
variable [SymE]
theorem Env.put_comm {ρ : Env} {x y : Option Tmp} (v u : Value) (h : ∀ d, x = some d → y ≠ some d) : (ρ.put x v).put y u = (ρ.put y u).put x v := by
  cases x with
  | none => rfl
  | some x =>
    cases y with
    | none => rfl
    | some y =>
      have hne : x ≠ y := fun e => h x rfl (e ▸ rfl)
      funext t
      simp only [Env.put_some]
      by_cases h1 : t = y
      · subst h1
        rw [if_pos rfl, if_neg (fun e => hne e.symm), if_pos rfl]
      · rw [if_neg h1]
        by_cases h2 : t = x
        · rw [if_pos h2, if_pos h2]
        · rw [if_neg h2, if_neg h2, if_neg h1]
theorem act_put_put (a : Act) (x : Tmp) (v u : Value) : (a.put (some x) v).put (some x) u = a.put (some x) u := by
  simp [Act.put]
theorem act_get_ne (a : Act) {x : Option Tmp} {d : Tmp} (v : Value) (h : x ≠ some d) : (a.put x v).tmps[d]? = a.tmps[d]? := by
  cases x with
  | none => rfl
  | some x =>
    have hne : x ≠ d := fun e => h (by rw [e])
    simp [Act.put, Array.getElem?_setIfInBounds_ne hne]
def SX (G : Nat) (base : Nat → Prop) (w0 : World) (s0 : Inj) (N : Nat) (d : Tmp) (cells : List Value) (elem : Nat) (mk : Nat → Value) (lo : Nat) : Bool → Env → List Deferred → AW → Act → World → Prop
  | false, ρ, ds, aw, a, w => ∃ s1, s0.le s1 ∧ St G base w0 s1 ρ N ds aw a w ∧ lo ≤ w.heap.size
  | true, ρ, ds, aw, a, w => ∃ s1 cb, s0.le s1 ∧ St G base w0 s1 (ρ.put (some d) undef) N ds aw (a.put (some d) undef) w ∧ w.heap[cb]? = some (.cells cells.toArray elem (0, 0)) ∧ ¬ base cb ∧ lo ≤ cb ∧ a.tmps[d]? = some (mk cb) ∧
      ∀ b B e, aw.m b = some B → B.rw = true → s1 b = some e → e.cb ≠ cb
def Early (ops : Array Oper) (d : Tmp) (o : Oper) : Prop := d ∉ looks ops o ∧ o.dst ≠ some d ∧ ∀ cs b, o.op ≠ .select cs b
section
variable {P : Program} {N : Nat} {ops : Array Oper} {i : Nat} {o : Oper} {K : Act → World → Prop} {Q : Exit → Act → World → Prop} {a : Act} {w : World}
  {base : Nat → Prop} {w0 : World} {s0 : Inj} {ρ : Env} {ds : List Deferred} {aw aw' : AW} {v : Value} {d : Tmp} {cells : List Value} {elem esz lo : Nat} {mk : Nat → Value} {m : Bool}
theorem looks_off {ρ : Env} {u : Value} (h : d ∉ looks ops o) : Agr ops o ρ (ρ.put (some d) u) := fun t ht => by
  rw [Env.put_some]
  exact if_neg (fun e => h (by rwa [← e]))
theorem SX.next {s1 s' : Inj} {cb : Nat} {v' : Value} {w' : World} (h1 : s0.le s1) (h4 : ¬ base cb) (h3 : w.heap[cb]? = some (.cells cells.toArray elem (0, 0))) (h5 : lo ≤ cb) (h6 : a.tmps[d]? = some (mk cb)) (hq : o.dst ≠ some d) (k1 : s1.le s')
    (k2 : St P.globals.size base w0 s' ((ρ.put (some d) undef).put o.dst v) N ds aw' ((a.put (some d) undef).put o.dst v') w') (k3 : Rel P.globals.size (fun k => base k ∨ k = cb) w s' aw' w') :
    SX P.globals.size base w0 s0 N d cells elem mk lo true (ρ.put o.dst v) ds aw' (a.put o.dst v') w' := by
  refine ⟨s', cb, Inj.le_trans h1 k1, ?_, (k3.below.block cb (.inr rfl)).trans h3, h4, h5, by rw [act_get_ne a v' hq]; exact h6, fun b B e hb hr he => ?_⟩
  · rw [Env.put_comm v undef (fun e he h => hq (he.trans h.symm)), Act.put_comm a v' undef (fun e he h => hq (he.trans h.symm))]
    exact k2
  · obtain ⟨e', cs, fz, g1, _, _, _, _, _, g7⟩ := k3.blk b B hb
    rw [he] at g1; obtain rfl := Option.some.inj g1
    exact fun hc => (g7 hr).1 (.inr hc)
theorem SX.val (h : SX P.globals.size base w0 s0 N d cells elem mk lo m ρ ds aw a w) (hN : dstsOk N ops = true) (ho : ops[i]? = some o) (hq : m = true → Early ops d o)
    (hv : ∀ ρ2, Agr ops o ρ ρ2 → wants ops o ρ2 true ∧ OpV P o ρ2 aw v aw') (hk : ∀ a' w', SX P.globals.size base w0 s0 N d cells elem mk lo m (ρ.put o.dst v) ds aw' a' w' → K a' w') : wpOp P ops Q i K a w := by
  cases m with
  | false =>
    obtain ⟨s1, h1, h2, h3⟩ := h
    obtain ⟨g1, g2⟩ := hv ρ (fun _ _ => rfl)
    exact gen_val ho hN h2 h2.rel.re (fun _ h => h) rfl rfl g1 g2 fun s' v' w' k1 k2 k3 => hk _ _ ⟨s', Inj.le_trans h1 k1, k2, Nat.le_trans h3 k3.below.size⟩
  | true =>
    obtain ⟨s1, cb, h1, h2, h3, h4, h5, h6, h7⟩ := h
    obtain ⟨q1, q2, q3⟩ := hq rfl
    obtain ⟨g1, g2⟩ := hv (ρ.put (some d) undef) (looks_off q1)
    have hcb : cb < w.heap.size := (Array.getElem?_eq_some_iff.1 h3).1
    have hl : ∀ e, some d = some e → e ∉ o.looksAt ops := fun e he => by obtain rfl := Option.some.inj he; exact q1
    exact gen_val ho hN h2 (h2.rel.keepOne hcb h7) (fun _ h => .inl h) (execOp_put (ops := ops) o q3 a (some d) undef hl).symm (wanted_put o a (some d) undef hl).symm g1 g2
      fun s' v' w' k1 k2 k3 => hk _ _ (SX.next h1 h4 h3 h5 h6 q2 k1 k2 k3)
theorem SX.skip (h : SX P.globals.size base w0 s0 N d cells elem mk lo m ρ ds aw a w) (hN : dstsOk N ops = true) (ho : ops[i]? = some o) (hq : m = true → Early ops d o)
    (hv : ∀ ρ2, Agr ops o ρ ρ2 → wants ops o ρ2 false) (hk : ∀ a' w', SX P.globals.size base w0 s0 N d cells elem mk lo m (ρ.put o.dst undef) ds aw a' w' → K a' w') : wpOp P ops Q i K a w := by
  cases m with
  | false =>
    obtain ⟨s1, h1, h2, h3⟩ := h
    exact gen_skip ho hN h2 h2.rel.re rfl (hv ρ (fun _ _ => rfl)) fun k2 => hk _ _ ⟨s1, h1, k2, h3⟩
  | true =>
    obtain ⟨s1, cb, h1, h2, h3, h4, h5, h6, h7⟩ := h
    obtain ⟨q1, q2, q3⟩ := hq rfl
    have hcb : cb < w.heap.size := (Array.getElem?_eq_some_iff.1 h3).1
    have hl : ∀ e, some d = some e → e ∉ o.looksAt ops := fun e he => by obtain rfl := Option.some.inj he; exact q1
    exact gen_skip ho hN h2 h2.rel.re (wanted_put o a (some d) undef hl).symm (hv _ (looks_off q1))
      fun k2 => hk _ _ (SX.next h1 h4 h3 h5 h6 q2 (Inj.le_refl s1) k2 (h2.rel.keepOne hcb h7))
theorem SX.call {fid : FuncId} {args : List Value} {R : Value → AW → Prop} (h : SX P.globals.size base w0 s0 N d cells elem mk lo m ρ ds aw a w) (hN : dstsOk N ops = true) (ho : ops[i]? = some o) (hq : m = true → Early ops d o)
    (hv : ∀ ρ2, Agr ops o ρ ρ2 → wants ops o ρ2 true ∧ OpC P o ρ2 fid args) (hcall : ACalls P fid args aw fun | .returned v, aw' => R v aw' | .panicked _, _ => False)
    (hk : ∀ v aw' a' w', R v aw' → SX P.globals.size base w0 s0 N d cells elem mk lo m (ρ.put o.dst v) ds aw' a' w' → K a' w') : wpOp P ops Q i K a w := by
  cases m with
  | false =>
    obtain ⟨s1, h1, h2, h3⟩ := h
    obtain ⟨g1, g2⟩ := hv ρ (fun _ _ => rfl)
    exact gen_call ho hN h2 h2.rel.re (fun _ h => h) rfl rfl g1 g2 hcall fun s' v v' aw' w' hr k1 k2 k3 => hk _ _ _ _ hr ⟨s', Inj.le_trans h1 k1, k2, Nat.le_trans h3 k3.below.size⟩
  | true =>
    obtain ⟨s1, cb, h1, h2, h3, h4, h5, h6, h7⟩ := h
    obtain ⟨q1, q2, q3⟩ := hq rfl
    obtain ⟨g1, g2⟩ := hv (ρ.put (some d) undef) (looks_off q1)
    have hcb : cb < w.heap.size := (Array.getElem?_eq_some_iff.1 h3).1
    have hl : ∀ e, some d = some e → e ∉ o.looksAt ops := fun e he => by obtain rfl := Option.some.inj he; exact q1
    exact gen_call ho hN h2 (h2.rel.keepOne hcb h7) (fun _ h => .inl h) (execOp_put (ops := ops) o q3 a (some d) undef hl).symm (wanted_put o a (some d) undef hl).symm g1 g2 hcall
      fun s' v v' aw' w' hr k1 k2 k3 => hk _ _ _ _ hr (SX.next h1 h4 h3 h5 h6 q2 k1 k2 k3)
theorem SX.read (h : SX P.globals.size base w0 s0 N d cells elem mk lo m ρ ds aw a w) (hN : dstsOk N ops = true) (ho : ops[i]? = some o) (hq : m = true → Early ops d o)
    (hv : ∀ ρ2, Agr ops o ρ ρ2 → (wants ops o ρ2 true ∧ OpV P o ρ2 aw v aw) ∨ (wants ops o ρ2 false ∧ v = undef) ∨ (wants ops o ρ2 true ∧ ∃ fid args, OpC P o ρ2 fid args ∧ ACalls P fid args aw fun e aw' => e = .returned v ∧ aw' = aw))
    (hk : ∀ a' w', SX P.globals.size base w0 s0 N d cells elem mk lo m (ρ.put o.dst v) ds aw a' w' → K a' w') : wpOp P ops Q i K a w := by
  cases m with
  | false =>
    obtain ⟨s1, h1, h2, h3⟩ := h
    rcases hv ρ (fun _ _ => rfl) with ⟨g1, g2⟩ | ⟨g1, rfl⟩ | ⟨g1, fid, args, g2, g3⟩
    · exact gen_val ho hN h2 h2.rel.re (fun _ h => h) rfl rfl g1 g2 fun s' v' w' k1 k2 k3 => hk _ _ ⟨s', Inj.le_trans h1 k1, k2, Nat.le_trans h3 k3.below.size⟩
    · exact gen_skip ho hN h2 h2.rel.re rfl g1 fun k2 => hk _ _ ⟨s1, h1, k2, h3⟩
    · refine gen_call (R := fun u aw' => u = v ∧ aw' = aw) ho hN h2 h2.rel.re (fun _ h => h) rfl rfl g1 g2 (g3.mono fun e aw' he => by obtain ⟨rfl, rfl⟩ := he; exact ⟨rfl, rfl⟩) ?_
      rintro s' u v' aw' w' ⟨rfl, rfl⟩ k1 k2 k3
      exact hk _ _ ⟨s', Inj.le_trans h1 k1, k2, Nat.le_trans h3 k3.below.size⟩
  | true =>
    obtain ⟨s1, cb, h1, h2, h3, h4, h5, h6, h7⟩ := h
    obtain ⟨q1, q2, q3⟩ := hq rfl
    have hcb : cb < w.heap.size := (Array.getElem?_eq_some_iff.1 h3).1
    have hl : ∀ e, some d = some e → e ∉ o.looksAt ops := fun e he => by obtain rfl := Option.some.inj he; exact q1
    have hE := (execOp_put (ops := ops) o q3 a (some d) undef hl).symm
    have hW := (wanted_put o a (some d) undef hl).symm
    rcases hv (ρ.put (some d) undef) (looks_off q1) with ⟨g1, g2⟩ | ⟨g1, rfl⟩ | ⟨g1, fid, args, g2, g3⟩
    · exact gen_val ho hN h2 (h2.rel.keepOne hcb h7) (fun _ h => .inl h) hE hW g1 g2 fun s' v' w' k1 k2 k3 => hk _ _ (SX.next h1 h4 h3 h5 h6 q2 k1 k2 k3)
    · exact gen_skip ho hN h2 h2.rel.re hW g1 fun k2 => hk _ _ (SX.next h1 h4 h3 h5 h6 q2 (Inj.le_refl s1) k2 (h2.rel.keepOne hcb h7))
    · refine gen_call (R := fun u aw' => u = v ∧ aw' = aw) ho hN h2 (h2.rel.keepOne hcb h7) (fun _ h => .inl h) hE hW g1 g2 (g3.mono fun e aw' he => by obtain ⟨rfl, rfl⟩ := he; exact ⟨rfl, rfl⟩) ?_
      rintro s' u v' aw' w' ⟨rfl, rfl⟩ k1 k2 k3
      exact hk _ _ (SX.next h1 h4 h3 h5 h6 q2 k1 k2 k3)
theorem SX.make (h : SX P.globals.size base w0 s0 N d cells elem mk lo false ρ ds aw a w) (ho : ops[i]? = some o) (hg : o.guard = none) (hd : o.dst = some d) (hdN : d < N) (hm : Makes P o cells elem esz mk)
    (hk : ∀ a' w', SX P.globals.size base w0 s0 N d cells elem mk lo true ρ ds aw a' w' → K a' w') : wpOp P ops Q i K a w := by
  obtain ⟨s1, h1, h2, h3⟩ := h
  have hw : Region.wanted o (yielded ops a.tmps) = true := by unfold Region.wanted; rw [hg]
  simp only [wpOp, ho, if_pos hw]
  left
  unfold Oper.wp
  rw [hm.run a.eval w]
  have hda : d < a.tmps.size := by rw [h2.size]; exact hdN
  refine hk _ _ ⟨s1, w.heap.size, h1, ?_, ?_, fun hb => absurd (h2.rel.hbase _ hb) (Nat.lt_irrefl _), h3, ?_, fun b B e hb hr he => ?_⟩
  · rw [hd, act_put_put]
    refine ⟨h2.rel.grow _, put_env h2.env (fun e he => by obtain rfl := Option.some.inj he; exact hda) VR.undef, by rw [put_size]; exact h2.size, by rw [put_defers]; exact h2.dfr, ?_, by rw [put_defers]; exact h2.nd⟩
    rw [put_defers]
    intro r hr
    obtain ⟨g1, g2⟩ := h2.mrk r hr
    exact ⟨g1, by rw [Below.heap_alloc _ _ _ (Array.getElem?_eq_some_iff.1 g2).1]; exact g2⟩
  · show (w.heap.push _)[w.heap.size]? = _
    simp
  · rw [hd]; simp [Act.put, hda]
  · have := h2.rel.cbLt hb he
    omega
theorem SX.meet {wS : World} {awS : AW} (h : SX P.globals.size base w0 s0 N d cells elem mk wS.heap.size true ρ ds aw a w) (hS : Rel P.globals.size base w0 s0 awS wS) (hm : Makes P o cells elem esz mk)
    (hro : ∀ b B, b < aw.next → aw.m b = some B → B.rw = false → ∃ B0, awS.m b = some B0) :
    ∃ s', s0.le s' ∧ St P.globals.size base w0 s' (ρ.put (some d) (mk aw.next)) N ds (aw.alloc cells elem esz) a w := by
  obtain ⟨s1, cb, h1, h2, h3, h4, h5, h6, h7⟩ := h
  obtain ⟨s', k1, k2, k3⟩ := h2.rel.attach elem esz hm.pl h3 h4 (fun b B e hb he => by
    cases hr : B.rw with
    | true => exact h7 b B e hb hr he
    | false =>
      have hlt : b < aw.next := by
        rcases Nat.lt_or_ge b aw.next with h | h
        · exact h
        · rw [h2.rel.mfresh b h] at hb; cases hb
      obtain ⟨B0, hB0⟩ := hro b B hlt hb hr
      obtain ⟨e0, cs, fz, g1, _⟩ := hS.blk b B0 hB0
      have g2 := h1 b e0 g1
      rw [he] at g2; obtain rfl := Option.some.inj g2
      have := hS.cbLt hB0 g1
      omega)
  refine ⟨s', Inj.le_trans h1 k1, k3, fun t => ?_, by have := h2.size; rwa [put_size] at this, by have := h2.dfr.mono k1; rwa [put_defers] at this, by have := h2.mrk; rwa [put_defers] at this, by have := h2.nd; rwa [put_defers] at this⟩
  rw [put_at]
  by_cases ht : t = d
  · rw [if_pos ht, ht]
    have : a.tmps.getD d undef = mk cb := by
      have := (Array.getElem?_eq_some_iff.1 h6)
      obtain ⟨q1, q2⟩ := this
      simp [Array.getD, q1, q2]
    rw [this]
    exact hm.vr s' _ _ k2 rfl
  · rw [if_neg ht]
    have := (h2.env t).mono k1
    rw [put_at, if_neg ht] at this
    have e : (a.put (some d) undef).tmps.getD t undef = a.tmps.getD t undef := by
      have := act_get_ne a (x := some d) (d := t) undef (fun e => ht (Option.some.inj e).symm)
      simp only [Array.getD_eq_getD_getElem?, this]
    rwa [e] at this
theorem Makes.opv {o : Oper} {ρ : Env} (hm : Makes P o cells elem esz mk) : OpV P o ρ aw (mk aw.next) (aw.alloc cells elem esz) := by
  intro base w0 s f w hr hf
  have hv : VRs s cells cells := VRs.ofPlains hm.pl
  obtain ⟨s', k1, k2, k3⟩ := hr.alloc (cells := cells) (cs := cells.toArray) elem esz (by simp) (by simp) (fun i v hi => by
    obtain ⟨v', a1, a2⟩ := hv.get hi
    exact ⟨v', by simpa using a1, a2⟩) (0, 0) (by simp)
  exact ⟨_, mk w.heap.size, _, s', hm.run f w, .inl rfl, k1, k3, hm.vr s' _ _ k2 rfl⟩
end
end Go.Am
set_option linter.unusedSimpArgs false
set_option linter.unusedVariables false
set_option linter.unusedSectionVars false
namespace Go.Am
open Go Go.RowKit
variable [SymE]
def LinX (P : Program) (ops : Array Oper) (d : Tmp) (cells : List Value) (elem esz : Nat) (mk : Nat → Value) (qx nhx : List Nat) (post : Tl) (awS : AW) (Kn : Env → List Deferred → AW → Prop) (Kp : List PanicEntry → Env → List Deferred → AW → Prop) : Tl → Env → List Deferred → AW → Prop
  | [], ρ, ds, aw => (∀ b B, b < aw.next → aw.m b = some B → B.rw = false → ∃ B0, awS.m b = some B0) ∧ ∃ ρ2, OffL ops nhx (ρ.put (some d) (mk aw.next)) ρ2 ∧ FFl P ops (qx ++ nhx) ρ2 (aw.alloc cells elem esz) ∧ LinT P ops Kn Kp post ρ2 ds (aw.alloc cells elem esz)
  | (t, q, nh) :: r, ρ, ds, aw => ∃ o, ops[t]? = some o ∧ TStep P ops o ρ ds aw (fun ρ' ds' aw' => ∃ ρ2, OffL ops nh ρ' ρ2 ∧ FFl P ops (q ++ nh) ρ2 aw' ∧ LinX P ops d cells elem esz mk qx nhx post awS Kn Kp r ρ2 ds' aw') (fun _ _ _ _ => False)
section
variable {P : Program} {N : Nat} {ops : Array Oper} {hs : List Nat} {Kn : Env → List Deferred → AW → Prop} {Kp : List PanicEntry → Env → List Deferred → AW → Prop}
  {base : Nat → Prop} {w0 : World} {s0 : Inj} {d : Tmp} {cells : List Value} {elem esz x : Nat} {mk : Nat → Value} {qx nhx : List Nat} {post : Tl} {wS : World} {awS : AW} {ox : Oper}
theorem lin_pre (hN : dstsOk N ops = true) (hst : ∀ i ∈ hs, i < ops.size ∧ ∃ d, dstOf ops i = some d ∧ ∀ j ∈ hs, dstOf ops j = some d → j = i)
    (hord : ((List.range ops.size).all fun j => ((ops[j]?).map fun (o : Oper) => o.after.all fun e => !Region.binds .any e || decide (e.on < j)).getD true) = true)
    (hlk : ((List.range ops.size).all fun j => ((ops[j]?).map fun (o : Oper) => (looks ops o).all fun t => hs.all fun i => dstOf ops i != some t || anc ops ops.size j i).getD true) = true)
    (hxo : ops[x]? = some ox) (hxg : ox.guard = none) (hxd : ox.dst = some d) (hdN : d < N) (hm : Makes P ox cells elem esz mk) (hS : Rel P.globals.size base w0 s0 awS wS) :
    ∀ (n : Nat) (l : Array Bool) (m : Bool) (ρ' ρ : Env) (ds : List Deferred) (aw : AW) (p : List Nat) (pre : Tl) (a : Act) (w : World), l.size = ops.size → left l = n → l.getD x true = m →
      (∀ j, j < ops.size → l.getD j true = false → j ∈ p ∨ ∃ e ∈ pre ++ (x, qx, nhx) :: post, j = e.1 ∨ j ∈ e.2.2) →
      (∀ e ∈ pre ++ (x, qx, nhx) :: post, e.1 < ops.size ∧ (e.1 ≠ x → l.getD e.1 true = false) ∧ (∀ i ∈ hs, dstOf ops i ≠ dstOf ops e.1 ∧ i ≠ e.1) ∧ (∀ j ∈ e.2.1, j ∈ hs) ∧ ∀ j ∈ e.2.2, j ∈ hs ∧ l.getD j true = false) →
      (∀ j, listedOf l j = true → j < ops.size → ∀ o, ops[j]? = some o → ∀ e ∈ o.after, Region.binds .any e = true → l.getD e.on false = true) →
      (∀ i ∈ p, i ∈ hs) →
      (∀ t, (∀ i ∈ p, l.getD i true = false → dstOf ops i ≠ some t) → ρ' t = ρ t) →
      chainOk ops (pre.map (·.1) ++ post.map (·.1)) = true → chainOk ops (x :: post.map (·.1)) = true → (∀ i ∈ nhx, ∀ e ∈ pre, anc ops ops.size i e.1 = true) →
      pendOk ops p (pre ++ (x, qx, nhx) :: post) = true → ((pre ++ (x, qx, nhx) :: post).map (·.1)).Nodup →
      (∀ i, (i ∈ p ∨ ∃ e ∈ pre, i = e.1 ∨ i ∈ e.2.1 ∨ i ∈ e.2.2) → ∀ o, ops[i]? = some o → Early ops d o) →
      FFl P ops p ρ aw → LinX P ops d cells elem esz mk qx nhx post awS Kn Kp pre ρ ds aw → SX P.globals.size base w0 s0 N d cells elem mk wS.heap.size m ρ' ds aw a w →
      wpAny P .any ops (QQ P.globals.size base w0 s0 N Kn Kp) n l a w := by
  have hord0 := hord
  have hlk0 := hlk
  simp only [List.all_eq_true, List.mem_range, decide_eq_true_eq] at hord hlk
  have hxs : x < ops.size := (Array.getElem?_eq_some_iff.1 hxo).1
  have hdx : dstOf ops x = some d := by simp [dstOf, hxo, hxd]
  intro n
  have met : ∀ (n : Nat) (l : Array Bool) (m : Bool) (ρ' ρ : Env) (ds : List Deferred) (aw : AW) (p : List Nat) (a : Act) (w : World), l.size = ops.size → left l = n → l.getD x true = m →
      (∀ j, j < ops.size → l.getD j true = false → j ∈ p ∨ ∃ e ∈ (x, qx, nhx) :: post, j = e.1 ∨ j ∈ e.2.2) →
      (∀ e ∈ (x, qx, nhx) :: post, e.1 < ops.size ∧ (e.1 ≠ x → l.getD e.1 true = false) ∧ (∀ i ∈ hs, dstOf ops i ≠ dstOf ops e.1 ∧ i ≠ e.1) ∧ (∀ j ∈ e.2.1, j ∈ hs) ∧ ∀ j ∈ e.2.2, j ∈ hs ∧ l.getD j true = false) →
      (∀ j, listedOf l j = true → j < ops.size → ∀ o, ops[j]? = some o → ∀ e ∈ o.after, Region.binds .any e = true → l.getD e.on false = true) →
      (∀ i ∈ p, i ∈ hs) →
      (∀ t, (∀ i ∈ p, l.getD i true = false → dstOf ops i ≠ some t) → ρ' t = ρ t) →
      chainOk ops (x :: post.map (·.1)) = true →
      pendOk ops p ((x, qx, nhx) :: post) = true → (((x, qx, nhx) :: post).map (·.1)).Nodup →
      FFl P ops p ρ aw → LinX P ops d cells elem esz mk qx nhx post awS Kn Kp [] ρ ds aw → SX P.globals.size base w0 s0 N d cells elem mk wS.heap.size m ρ' ds aw a w →
      wpAny P .any ops (QQ P.globals.size base w0 s0 N Kn Kp) n l a w := by
    intro n l m ρ' ρ ds aw p a w hl hf hmode hin htl hcl hp hag hch hpo hnd hff hlin hsx
    obtain ⟨hro, ρ2, ho2, hff2, hlin2⟩ := hlin
    cases m with
    | false =>
      obtain ⟨s1, k1, k2, _⟩ := hsx
      have ht : TailAny P N ops Kn Kp n l ρ' ds aw := by
        refine lin_tail hN hs hst hord0 hlk0 n l ρ' ρ ds aw p ((x, qx, nhx) :: post) hl hf hin ?_ hcl hp hag hch hpo hnd hff ?_
        · intro e he
          obtain ⟨a1, a2, a3, a4, a5⟩ := htl e he
          refine ⟨a1, ?_, a3, a4, a5⟩
          by_cases hex : e.1 = x
          · rw [hex]; exact hmode
          · exact a2 hex
        · refine ⟨ox, hxo, .val (fun ρ'' _ => ⟨?_, hm.opv⟩) ?_⟩
          · unfold wants; rw [hxg]
          · rw [hxd]; exact ⟨ρ2, ho2, hff2, hlin2⟩
      exact wpAny_mono' (fun e a w => QQ.mono k1) (fun a w => QQ.not_outgrown a w) n _ _ _ (tail_sound n l ρ' ds aw ht base w0 s1 a w k2)
    | true =>
      obtain ⟨s1, k1, k2⟩ := hsx.meet hS hm hro
      have hancx : ∀ j, anc ops ops.size x j = true → l.getD j false = true := by
        intro j hj
        exact closed_anc (ops := ops) (l := l) hcl ops.size (j := x) (i := j) (fun o ho e he hb => hcl x (by unfold listedOf; exact hmode) hxs o ho e he hb) hj
      simp only [pendOk, Bool.and_eq_true, List.all_eq_true, Bool.or_eq_true] at hpo
      obtain ⟨⟨hp1, hp2⟩, hp3⟩ := hpo
      obtain ⟨a1, a2, a3, a4, a5⟩ := htl (x, qx, nhx) (by simp)
      have hnd' : x ∉ List.map (fun x : Nat × List Nat × List Nat => x.1) post ∧ (List.map (fun x : Nat × List Nat × List Nat => x.1) post).Nodup := by simpa using hnd
      have hunl : ∀ i, i ∈ p → l.getD i true = false → i ∈ qx := by
        intro i hi hx
        rcases hp1 i hi with h | h
        · simpa using h
        · have := hancx i h
          rw [getD_true_false (by rw [hl]; exact (hst i (hp i hi)).1), this] at hx; cases hx
      have ht : TailAny P N ops Kn Kp n l (ρ'.put (some d) (mk aw.next)) ds (aw.alloc cells elem esz) := by
        refine lin_tail hN hs hst hord0 hlk0 n l (ρ'.put (some d) (mk aw.next)) ρ2 ds _ (qx ++ nhx) post hl hf ?_ ?_ hcl ?_ ?_ ?_ hp3 hnd'.2 hff2 hlin2
        · intro j hj hx
          rcases hin j hj hx with h | ⟨e, he, hje⟩
          · exact .inl (List.mem_append.2 (.inl (hunl j h hx)))
          · rcases List.mem_cons.1 he with rfl | he
            · rcases hje with h | h
              · simp only at h; rw [h, hmode] at hx; cases hx
              · exact .inl (List.mem_append.2 (.inr h))
            · exact .inr ⟨e, he, hje⟩
        · intro e he
          obtain ⟨b1, b2, b3, b4, b5⟩ := htl e (by simp [he])
          exact ⟨b1, b2 (fun h => hnd'.1 (by rw [← h]; exact List.mem_map.2 ⟨e, he, rfl⟩)), b3, b4, b5⟩
        · intro j hj
          rcases List.mem_append.1 hj with h | h
          · exact a4 j h
          · exact (a5 j h).1
        · intro t ht
          have e2 : ρ2 t = (ρ.put (some d) (mk aw.next)) t := ho2 t fun j hj => ht j (List.mem_append.2 (.inr hj)) (a5 j hj).2
          rw [e2, put_at, put_at]
          by_cases htd : t = d
          · rw [if_pos htd, if_pos htd]
          · rw [if_neg htd, if_neg htd]
            exact hag t fun j hj hx => ht j (List.mem_append.2 (.inl (hunl j hj hx))) hx
        · cases post with
          | nil => rfl
          | cons y r =>
            simp only [List.map_cons, chainOk, Bool.and_eq_true] at hch ⊢
            exact hch.2
      exact wpAny_mono' (fun e a w => QQ.mono k1) (fun a w => QQ.not_outgrown a w) n _ _ _ (tail_sound n l _ ds _ ht base w0 s1 a w k2)
  induction n with
  | zero =>
    intro l m ρ' ρ ds aw p pre a w hl hf hmode hin htl hcl hp hag hch hch2 hnx hpo hnd hea hff hlin hsx
    cases pre with
    | nil => exact met 0 l m ρ' ρ ds aw p a w hl hf hmode hin htl hcl hp hag hch2 hpo hnd hff hlin hsx
    | cons e r =>
      exfalso
      have hne : e.1 ≠ x := by
        intro h
        simp only [List.cons_append, List.map_cons, List.nodup_cons] at hnd
        exact hnd.1 (by rw [h]; simp)
      obtain ⟨h1, h3, _⟩ := htl e (by simp)
      have hall : l.getD e.1 true = true := by
        unfold left at hf
        rw [List.countP_eq_zero] at hf
        have := hf l[e.1] (by simp)
        simp only [Array.getD, hl, h1, dif_pos]
        simpa using this
      rw [hall] at h3; cases h3 hne
  | succ n ih =>
    intro l m ρ' ρ ds aw p pre a w hl hf hmode hin htl hcl hp hag hch hch2 hnx hpo hnd hea hff hlin hsx
    cases pre with
    | nil => exact met (n + 1) l m ρ' ρ ds aw p a w hl hf hmode hin htl hcl hp hag hch2 hpo hnd hff hlin hsx
    | cons y r =>
    obtain ⟨t, q, nh⟩ := y
    have hpre : ∀ j o, ops[j]? = some o → ∀ e ∈ o.after, Region.binds .any e = true → e.on < j := by
      intro j o ho e he hb
      have hlt : j < ops.size := (Array.getElem?_eq_some_iff.1 ho).1
      have := hord j hlt
      rw [ho] at this
      simp only [Option.map_some, Option.getD_some, Array.all_eq_true] at this
      obtain ⟨q, hq, rfl⟩ := Array.getElem_of_mem he
      have := this q hq
      simp only [hb, Bool.not_true, Bool.false_or, decide_eq_true_eq] at this
      exact this
    have hanc : ∀ i, i ∈ Region.ready .any ops l → ∀ j, anc ops ops.size i j = true → l.getD j false = true := by
      intro i hi j hj
      obtain ⟨_, _, g3⟩ := ready_spec hi
      exact closed_anc hcl ops.size g3 hj
    have hnext : ∀ i, i ∈ Region.ready .any ops l → (∀ j, listedOf (l.setIfInBounds i true) j = true → j < ops.size → ∀ o, ops[j]? = some o → ∀ e ∈ o.after, Region.binds .any e = true → (l.setIfInBounds i true).getD e.on false = true) := by
      intro i hi j hj hjs o ho e he hb
      obtain ⟨g1, g2, g3⟩ := ready_spec hi
      have up : ∀ x, l.getD x false = true → (l.setIfInBounds i true).getD x false = true := by
        intro x hx
        rw [getD_set]; split
        · rfl
        · exact hx
      unfold listedOf at hj
      rw [getD_set] at hj
      split at hj
      · rename_i hij
        obtain ⟨rfl, _⟩ := hij
        exact up _ (g3 o ho e he hb)
      · exact up _ (hcl j hj hjs o ho e he hb)
    have hlook : ∀ i o, i ∈ Region.ready .any ops l → ops[i]? = some o → Agr ops o ρ ρ' := by
      intro i o hi ho t ht
      obtain ⟨g1, _, _⟩ := ready_spec hi
      refine hag t fun j hj hx hdj => ?_
      have := hlk i g1
      rw [ho] at this
      simp only [Option.map_some, Option.getD_some, List.all_eq_true, Bool.or_eq_true, bne_iff_ne, ne_eq] at this
      rcases this t ht j (hp j hj) with h | h
      · exact h hdj
      · have := hanc i hi j h
        rw [getD_true_false (by rw [hl]; exact (hst j (hp j hj)).1), this] at hx; cases hx
    have hsz : ∀ i, (l.setIfInBounds i true).size = ops.size := fun i => by simp [hl]
    have hleft : ∀ i, i ∈ Region.ready .any ops l → left (l.setIfInBounds i true) = n := by
      intro i hi
      obtain ⟨_, g2, _⟩ := ready_spec hi
      have := left_set l i g2
      omega
    have hkeep : ∀ i j, (l.setIfInBounds i true).getD j true = false → i ≠ j ∧ l.getD j true = false := by
      intro i j hx
      rw [getD_set] at hx
      split at hx
      · cases hx
      · rename_i hne
        refine ⟨fun h => ?_, hx⟩
        subst h
        have : ¬ i < l.size := fun h => hne ⟨rfl, h⟩
        simp [Array.getD, this] at hx
    have hput : ∀ i j, i ≠ j → l.getD j true = false → (l.setIfInBounds i true).getD j true = false := by
      intro i j hne hx
      rw [getD_set, if_neg (fun h => hne h.1)]; exact hx
    have hmx : ∀ i, i ≠ x → (l.setIfInBounds i true).getD x true = m := by
      intro i hne
      rw [getD_set, if_neg (fun h => hne h.1)]; exact hmode
    simp only [List.cons_append, List.map_cons, List.nodup_cons] at hnd
    have htx : t ≠ x := fun h => hnd.1 (by rw [h]; simp)
    obtain ⟨t1, t2, t3, t4, t5⟩ := htl (t, q, nh) (by simp)
    have t2 := t2 htx
    refine ⟨fun hr => ?_, fun i hi => ?_⟩
    · exfalso
      have hfirst : ∃ j, j < ops.size ∧ l.getD j true = false ∧ ∀ i, i < j → l.getD i true = true := by
        have hex : ∃ j, j < ops.size ∧ l.getD j true = false := ⟨t, t1, t2⟩
        obtain ⟨j, hj, hx⟩ := hex
        induction j using Nat.strongRecOn with
        | _ j ihj =>
          by_cases h : ∀ i, i < j → l.getD i true = true
          · exact ⟨j, hj, hx, h⟩
          · have : ∃ i, i < j ∧ l.getD i true = false := by
              apply Classical.byContradiction
              intro h'
              apply h
              intro i hi
              cases hy : l.getD i true with
              | true => rfl
              | false => exact absurd ⟨i, hi, hy⟩ h'
            obtain ⟨i, hi, hy⟩ := this
            exact ihj i hi (by omega) hy
      obtain ⟨j, hj, hx, hmin⟩ := hfirst
      have hready : j ∈ Region.ready .any ops l := ready_of hj hx (fun o ho e he hb => by
        have hlt := hpre j o ho e he hb
        have := hmin _ hlt
        rw [getD_true_false (by omega)] at this
        exact this)
      rw [hr] at hready; simp at hready
    · obtain ⟨g1, g2, g3⟩ := ready_spec hi
      have ho : ops[i]? = some ops[i] := Array.getElem?_eq_getElem g1
      have hag' := hlook i _ hi ho
      by_cases hix : i = x
      · -- the block is made
        subst hix
        have hmf : m = false := by rw [← hmode]; exact g2
        subst hmf
        have hox : ops[i]? = some ox := hxo
        refine hsx.make hxo hxg hxd hdN hm fun a' w' hsx' => ?_
        refine ih _ true ρ' ρ ds aw p ((t, q, nh) :: r) a' w' (hsz i) (hleft i hi) (by rw [getD_set, if_pos ⟨rfl, by rw [hl]; exact g1⟩]) ?_ ?_ (hnext i hi) hp ?_ hch hch2 hnx hpo (by simpa using hnd) hea hff hlin hsx'
        · intro j hj hx
          exact hin j hj (hkeep i j hx).2
        · intro e he
          obtain ⟨a1, a2, a3, a4, a5⟩ := htl e he
          refine ⟨a1, fun hne => hput i _ (fun h => hne h.symm) (a2 hne), a3, a4, fun j hj => ⟨(a5 j hj).1, hput i j ?_ (a5 j hj).2⟩⟩
          obtain ⟨_, _, x3, _⟩ := htl (i, qx, nhx) (by simp)
          exact fun h => (x3 j (a5 j hj).1).2 h.symm
        · intro t' ht
          refine hag t' fun j hj hx => ht j hj (hput i j (fun h => ?_) hx)
          obtain ⟨_, _, x3, _⟩ := htl (i, qx, nhx) (by simp)
          exact (x3 j (hp j hj)).2 h.symm
      by_cases him : i ∈ p
      · -- one that reads
        obtain ⟨_, d', hdi, hdu⟩ := hst i (hp i him)
        have hod : (ops[i]).dst = some d' := by simpa [dstOf, ho] using hdi
        have hEa := hea i (.inl him) _ ho
        have go : ∀ a' w', SX P.globals.size base w0 s0 N d cells elem mk wS.heap.size m (ρ'.put (ops[i]).dst (ρ d')) ds aw a' w' → wpAny P .any ops (QQ P.globals.size base w0 s0 N Kn Kp) n (l.setIfInBounds i true) a' w' := by
          intro a' w' hsx'
          refine ih _ m _ ρ ds aw p ((t, q, nh) :: r) a' w' (hsz i) (hleft i hi) (hmx i hix) ?_ ?_ (hnext i hi) hp ?_ hch hch2 hnx hpo (by simpa using hnd) hea hff hlin hsx'
          · intro j hj hx
            exact hin j hj (hkeep i j hx).2
          · intro e he
            obtain ⟨a1, a2, a3, a4, a5⟩ := htl e he
            refine ⟨a1, fun hne => hput i _ (a3 i (hp i him)).2 (a2 hne), a3, a4, fun j hj => ⟨(a5 j hj).1, ?_⟩⟩
            refine hput i j ?_ (a5 j hj).2
            rintro rfl
            have key : ∀ (tl : Tl) (p : List Nat), pendOk ops p tl = true → e ∈ tl → anc ops ops.size i e.1 = true := by
              intro tl
              induction tl with
              | nil => intro p _ h; simp at h
              | cons z r ihr =>
                intro p hpo he
                obtain ⟨t', q', nh'⟩ := z
                simp only [pendOk, Bool.and_eq_true, List.all_eq_true] at hpo
                rcases List.mem_cons.1 he with rfl | he
                · exact hpo.1.2 i hj
                · exact ihr _ hpo.2 he
            by_cases hex : e.1 = x
            · have hmem : e ∈ ((t, q, nh) :: r) ++ (x, qx, nhx) :: post := he
              have hee : e = (x, qx, nhx) := by
                simp only [List.cons_append, List.mem_cons, List.mem_append] at hmem
                rcases hmem with rfl | h | rfl | h
                · exact absurd hex htx
                · exfalso
                  have hn2 := hnd.2
                  simp only [List.map_append, List.map_cons, List.nodup_append] at hn2
                  exact hn2.2.2 e.1 (List.mem_map.2 ⟨e, h, rfl⟩) x (by simp) hex
                · rfl
                · exfalso
                  have hn2 := hnd.2
                  simp only [List.map_append, List.map_cons, List.nodup_append, List.nodup_cons] at hn2
                  exact hn2.2.1.1 (by rw [← hex]; exact List.mem_map.2 ⟨e, h, rfl⟩)
              subst hee
              have h1 := hnx i hj (t, q, nh) (by simp)
              have := hanc i hi _ h1
              rw [getD_true_false (by omega), this] at t2; cases t2
            · have h1 := key _ p hpo he
              have := hanc i hi _ h1
              have h2 := a2 hex
              rw [getD_true_false (by omega), this] at h2; cases h2
          · intro t' ht
            rw [hod, put_at]
            by_cases htd : t' = d'
            · rw [if_pos htd, htd]
            · rw [if_neg htd]
              refine hag t' fun j hj hx => ?_
              by_cases hji : j = i
              · subst hji
                rw [hdi]
                exact fun h => htd (by injection h with h; exact h.symm)
              · exact ht j hj (hput i j (fun h => hji h.symm) hx)
        have hho := hff i him _ ho d' hod
        exact hsx.read hN ho (fun _ => hEa) (fun ρ2 hρ2 => hho ρ2 fun t' ht' => (hρ2 t' ht').trans (hag' t' ht')) go
      · -- one that does more: the first
        obtain ⟨e, het, hie⟩ := (hin i g1 g2).resolve_left him
        have hpo0 := hpo
        simp only [List.cons_append, pendOk, Bool.and_eq_true, List.all_eq_true, Bool.or_eq_true] at hpo
        obtain ⟨⟨hp1, hp2⟩, hp3⟩ := hpo
        have hit' : i = t := by
          simp only [List.cons_append, List.mem_cons, List.mem_append] at het
          have chain : ∀ (m : Tl) (b : Nat), chainOk ops (b :: m.map (·.1)) = true → (∀ y ∈ b :: m.map (·.1), y < ops.size ∧ l.getD y true = false) → ∀ y ∈ m, i ≠ y.1 := by
            intro m
            induction m with
            | nil => intro _ _ _ y hy; simp at hy
            | cons c m ihm =>
              intro b hc hall y hy
              simp only [List.map_cons, chainOk, Bool.and_eq_true] at hc
              rcases List.mem_cons.1 hy with rfl | hy
              · intro h
                have h1 := hanc i hi b (by rw [h]; exact hc.1)
                obtain ⟨h2, h3⟩ := hall b (by simp)
                rw [getD_true_false (by omega), h1] at h3; cases h3
              · exact ihm c.1 hc.2 (fun z hz => hall z (by simp at hz ⊢; exact .inr hz)) y hy
          have reads : ∀ (m : Tl) (pp : List Nat), pendOk ops pp m = true → ∀ y ∈ m, i ∈ y.2.2 → l.getD y.1 false = true := by
            intro m
            induction m with
            | nil => intro _ _ y hy; simp at hy
            | cons c m ihm =>
              intro pp hpd y hy hiy
              obtain ⟨c1, c2, c3⟩ := c
              simp only [pendOk, Bool.and_eq_true, List.all_eq_true] at hpd
              rcases List.mem_cons.1 hy with rfl | hy
              · exact hanc i hi _ (hpd.1.2 i hiy)
              · exact ihm _ hpd.2 y hy hiy
          have hn2 := hnd.2
          simp only [List.map_append, List.map_cons, List.nodup_append, List.nodup_cons] at hn2
          have hrp : ∀ y ∈ r ++ post, y ∈ ((t, q, nh) :: r) ++ (x, qx, nhx) :: post ∧ y.1 ≠ x := by
            intro y hy
            rcases List.mem_append.1 hy with h | h
            · exact ⟨by simp [h], fun hx => hn2.2.2 y.1 (List.mem_map.2 ⟨y, h, rfl⟩) x (by simp) hx⟩
            · exact ⟨by simp [h], fun hx => hn2.2.1.1 (by rw [← hx]; exact List.mem_map.2 ⟨y, h, rfl⟩)⟩
          have hall : ∀ y ∈ t :: (r ++ post).map (·.1), y < ops.size ∧ l.getD y true = false := by
            intro y hy
            rcases List.mem_cons.1 hy with rfl | hy
            · exact ⟨t1, t2⟩
            · obtain ⟨z, hz, rfl⟩ := List.mem_map.1 hy
              obtain ⟨z1, z2⟩ := hrp z hz
              obtain ⟨b1, b2, _⟩ := htl z z1
              exact ⟨b1, b2 z2⟩
          have hch3 : chainOk ops (t :: (r ++ post).map (·.1)) = true := by simpa using hch
          rcases het with rfl | het | rfl | het
          · rcases hie with h | h
            · exact h
            · exfalso
              have := hanc i hi t (hp2 i h)
              rw [getD_true_false (by omega), this] at t2; cases t2
          · exfalso
            rcases hie with h | h
            · exact chain (r ++ post) t hch3 hall e (by simp [het]) h
            · have h1 := reads (r ++ (x, qx, nhx) :: post) _ hp3 e (by simp [het]) h
              obtain ⟨b1, b2⟩ := hall e.1 (List.mem_cons_of_mem _ (List.mem_map.2 ⟨e, by simp [het], rfl⟩))
              rw [getD_true_false (by omega), h1] at b2; cases b2
          · exfalso
            rcases hie with h | h
            · exact hix h
            · have := hanc i hi t (hnx i h (t, q, nh) (by simp))
              rw [getD_true_false (by omega), this] at t2; cases t2
          · exfalso
            rcases hie with h | h
            · exact chain (r ++ post) t hch3 hall e (by simp [het]) h
            · have h1 := reads (r ++ (x, qx, nhx) :: post) _ hp3 e (by simp [het]) h
              obtain ⟨b1, b2⟩ := hall e.1 (List.mem_cons_of_mem _ (List.mem_map.2 ⟨e, by simp [het], rfl⟩))
              rw [getD_true_false (by omega), h1] at b2; cases b2
        subst hit'
        obtain ⟨o, ho', hst'⟩ := hlin
        have hoo : o = ops[i] := by rw [ho] at ho'; exact (Option.some.inj ho').symm
        subst hoo
        have hEa := hea i (.inr ⟨(i, q, nh), by simp, .inl rfl⟩) _ ho
        have go : ∀ (v : Value) (ds' : List Deferred) (aw' : AW) (a' : Act) (w' : World), ds' = ds → (∃ ρ2, OffL ops nh (ρ.put (ops[i]).dst v) ρ2 ∧ FFl P ops (q ++ nh) ρ2 aw' ∧ LinX P ops d cells elem esz mk qx nhx post awS Kn Kp r ρ2 ds' aw') →
            SX P.globals.size base w0 s0 N d cells elem mk wS.heap.size m (ρ'.put (ops[i]).dst v) ds aw' a' w' → wpAny P .any ops (QQ P.globals.size base w0 s0 N Kn Kp) n (l.setIfInBounds i true) a' w' := by
          rintro v ds' aw' a' w' rfl ⟨ρ2, ho2, hff', hlin'⟩ hsx'
          refine ih _ m _ ρ2 _ aw' (q ++ nh) r a' w' (hsz i) (hleft i hi) (hmx i htx) ?_ ?_ (hnext i hi) ?_ ?_ ?_ hch2 (fun j hj e he => hnx j hj e (by simp [he])) hp3 hnd.2 ?_ hff' hlin' hsx'
          · intro j hj hx
            obtain ⟨hne, hx⟩ := hkeep i j hx
            rcases hin j hj hx with h | ⟨e, he, hje⟩
            · rcases hp1 j h with h | h
              · exact .inl (List.mem_append.2 (.inl (by simpa using h)))
              · have := hanc i hi j h
                rw [getD_true_false (by omega), this] at hx; cases hx
            · simp only [List.cons_append, List.mem_cons] at he
              rcases he with rfl | he
              · rcases hje with h | h
                · exact absurd h.symm hne
                · exact .inl (List.mem_append.2 (.inr h))
              · exact .inr ⟨e, he, hje⟩
          · intro y hy
            obtain ⟨b1, b2, b3, b4, b5⟩ := htl y (by simp only [List.cons_append, List.mem_cons]; exact .inr hy)
            have hne : i ≠ y.1 := fun h => hnd.1 (by rw [h]; exact List.mem_map.2 ⟨y, hy, rfl⟩)
            exact ⟨b1, fun hyx => hput i _ hne (b2 hyx), b3, b4, fun j hj => ⟨(b5 j hj).1, hput i j (fun h => (t3 j (b5 j hj).1).2 h.symm) (b5 j hj).2⟩⟩
          · intro j hj
            rcases List.mem_append.1 hj with h | h
            · exact t4 j h
            · exact (t5 j h).1
          · intro t' ht
            have e2 : ρ2 t' = (ρ.put (ops[i]).dst v) t' := ho2 t' fun j hj => ht j (List.mem_append.2 (.inr hj)) (hput i j (fun h => (t3 j (t5 j hj).1).2 h.symm) (t5 j hj).2)
            rw [e2]
            have base' : ρ' t' = ρ t' ∨ (ops[i]).dst = some t' := by
              by_cases hd : (ops[i]).dst = some t'
              · exact .inr hd
              · refine .inl (hag t' fun j hj hx => ?_)
                rcases hp1 j hj with h | h
                · exact ht j (List.mem_append.2 (.inl (by simpa using h))) (hput i j (fun h2 => him (h2 ▸ hj)) hx)
                · have := hanc i hi j h
                  rw [getD_true_false (by rw [hl]; exact (hst j (hp j hj)).1), this] at hx; cases hx
            cases hdst : (ops[i]).dst with
            | none =>
              rcases base' with h | h
              · exact h
              · rw [hdst] at h; cases h
            | some z =>
              rw [put_at, put_at]
              by_cases htx : t' = z
              · rw [if_pos htx, if_pos htx]
              · rw [if_neg htx, if_neg htx]
                rcases base' with h | h
                · exact h
                · rw [hdst] at h; injection h with h; exact absurd h.symm htx
          · cases r with
            | nil =>
              cases post with
              | nil => rfl
              | cons c k =>
                simp only [List.map_cons, List.map_nil, List.nil_append, List.cons_append, chainOk, Bool.and_eq_true] at hch ⊢
                exact hch.2
            | cons c k =>
              simp only [List.map_cons, List.cons_append, chainOk, Bool.and_eq_true] at hch ⊢
              exact hch.2
          · intro j hj
            refine hea j ?_
            rcases hj with h | ⟨e, he, h⟩
            · rcases List.mem_append.1 h with h | h
              · exact .inr ⟨(i, q, nh), by simp, .inr (.inl h)⟩
              · exact .inr ⟨(i, q, nh), by simp, .inr (.inr h)⟩
            · exact .inr ⟨e, by simp [he], h⟩
        have offrefl : Off ops ρ ρ := fun _ _ => rfl
        cases hst' with
        | val h hn => exact hsx.val hN ho (fun _ => hEa) (fun ρ2 hρ2 => h ρ2 fun t' ht' => (hρ2 t' ht').trans (hag' t' ht')) fun a' w' hsx' => go _ _ _ a' w' rfl hn hsx'
        | skip h hn => exact hsx.skip hN ho (fun _ => hEa) (fun ρ2 hρ2 => h ρ2 fun t' ht' => (hρ2 t' ht').trans (hag' t' ht')) fun a' w' hsx' => go _ _ _ a' w' rfl hn hsx'
        | call h hn =>
          refine hsx.call (R := fun v aw' => ∃ ρ2, OffL ops nh (ρ.put (ops[i]).dst v) ρ2 ∧ FFl P ops (q ++ nh) ρ2 aw' ∧ LinX P ops d cells elem esz mk qx nhx post awS Kn Kp r ρ2 ds aw') hN ho (fun _ => hEa) (fun ρ2 hρ2 => h ρ2 fun t' ht' => (hρ2 t' ht').trans (hag' t' ht')) (ACalls.mono hn fun e aw' he => ?_) fun v aw' a' w' hr hsx' => go _ _ _ a' w' rfl hr hsx'
          cases e with
          | returned v => exact he
          | panicked ch => exact (he ρ offrefl).elim
        | panic h hn => exact (hn ρ offrefl).elim
end
def notSel : Op → Bool
  | .select _ _ => false
  | _ => true
def linXOk (ops : Array Oper) (x : Nat) (d : Tmp) (p : List Nat) (pre : Tl) (qx nhx : List Nat) (post : Tl) : Bool :=
  ((quietOf p (pre ++ (x, qx, nhx) :: post)).all fun i => decide (i < ops.size) && (dstOf ops i).isSome && ((quietOf p (pre ++ (x, qx, nhx) :: post)).all fun j => i == j || dstOf ops i != dstOf ops j) && (pre ++ (x, qx, nhx) :: post).all fun e => dstOf ops i != dstOf ops e.1 && i != e.1) &&
  ((pre ++ (x, qx, nhx) :: post).all fun e => decide (e.1 < ops.size)) &&
  ((List.range ops.size).all fun j => p.contains j || (pre ++ (x, qx, nhx) :: post).any fun e => j == e.1 || e.2.2.contains j) &&
  ((List.range ops.size).all fun j => ((ops[j]?).map fun (o : Oper) => o.after.all fun e => !Region.binds .any e || decide (e.on < j)).getD true) &&
  ((List.range ops.size).all fun j => ((ops[j]?).map fun (o : Oper) => (looks ops o).all fun t => (quietOf p (pre ++ (x, qx, nhx) :: post)).all fun i => dstOf ops i != some t || anc ops ops.size j i).getD true) &&
  chainOk ops (pre.map (·.1) ++ post.map (·.1)) && chainOk ops (x :: post.map (·.1)) && (nhx.all fun i => pre.all fun e => anc ops ops.size i e.1) &&
  pendOk ops p (pre ++ (x, qx, nhx) :: post) && (decide ((pre ++ (x, qx, nhx) :: post).map (·.1)).Nodup) &&
  ((p ++ pre.flatMap fun e => e.1 :: (e.2.1 ++ e.2.2)).all fun i => ((ops[i]?).map fun (o : Oper) => !(looks ops o).contains d && o.dst != some d && notSel o.op).getD true)
section
variable {P : Program} {N : Nat} {ops : Array Oper} {k : List Item} {ρ : Env} {ds : List Deferred} {aw : AW} {d : Tmp} {cells : List Value} {elem esz x : Nat} {mk : Nat → Value} {p qx nhx : List Nat} {pre post : Tl} {ox : Oper}
theorem ago_drawX {id : Nat} {R : ADone → Env → List Deferred → AW → Prop} {ρ1 : Env} (hm : P.follows .mixedOrders = true) (hN : dstsOk N ops = true) (hok : linXOk ops x d p pre qx nhx post = true)
    (hxo : ops[x]? = some ox) (hxg : ox.guard = none) (hxd : ox.dst = some d) (hmk : Makes P ox cells elem esz mk) (hoff : OffL ops p ρ ρ1) (hop : FFl P ops p ρ1 aw)
    (hk : LinX P ops d cells elem esz mk qx nhx post aw (fun ρ' ds' aw' => AGo P N k ρ' ds' aw' R) (fun ch ρ' ds' aw' => R (.panic ch) ρ' ds' aw') pre ρ1 ds aw) :
    AGo P N (.code (.region id ops true) :: k) ρ ds aw R := by
  simp only [linXOk, Bool.and_eq_true] at hok
  obtain ⟨⟨⟨⟨⟨⟨⟨⟨⟨⟨h1, h2⟩, h3⟩, h4⟩, h5⟩, h6⟩, h7⟩, h8⟩, h9⟩, h10⟩, h11⟩ := hok
  refine ago_of_wp fun base w0 s a w hst => wp_region_any hm ?_
  simp only [List.all_eq_true, Bool.and_eq_true, bne_iff_ne, ne_eq, Bool.or_eq_true, beq_iff_eq, decide_eq_true_eq, List.mem_range, List.any_eq_true] at h1 h2 h3 h8 h10 h11
  have hmask : ∀ j, (Array.replicate ops.size false).getD j true = if j < ops.size then false else true := by
    intro j
    simp only [Array.getD_eq_getD_getElem?]
    by_cases hj : j < ops.size
    · simp [hj]
    · simp [hj]
  have h0 : left (Array.replicate ops.size false) = ops.size := by
    unfold left
    rw [Array.toList_replicate, List.countP_replicate]
    simp
  have hxs : x < ops.size := (Array.getElem?_eq_some_iff.1 hxo).1
  have hdN : d < N := dstsOk_get hN (j := x) (by simp [hxo, hxd])
  have hst' : St P.globals.size base w0 s ρ N ds aw a w.drew := ⟨hst.rel.drew, hst.env, hst.size, hst.dfr, hst.mrk, hst.nd⟩
  have hq : ∀ e ∈ pre ++ (x, qx, nhx) :: post, ∀ j, j ∈ e.2.1 ∨ j ∈ e.2.2 → j ∈ quietOf p (pre ++ (x, qx, nhx) :: post) := fun e he j hj => List.mem_append.2 (.inr (List.mem_flatMap.2 ⟨e, he, List.mem_append.2 hj⟩))
  refine lin_pre (hs := quietOf p (pre ++ (x, qx, nhx) :: post)) (wS := w.drew) (awS := aw) hN ?_ h4 h5 hxo hxg hxd hdN hmk hst'.rel ops.size _ false ρ ρ1 ds aw p pre a w.drew (by simp) h0 (by rw [hmask, if_pos hxs]) ?_ ?_ ?_ (fun i hi => List.mem_append.2 (.inl hi)) ?_ h6 h7 h8 h9 h10 ?_ hop hk ⟨s, Inj.le_refl s, hst', Nat.le_refl _⟩
  · intro i hi
    obtain ⟨⟨⟨b1, b2⟩, b3⟩, b4⟩ := h1 i hi
    obtain ⟨d, hd⟩ := Option.isSome_iff_exists.1 b2
    exact ⟨b1, d, hd, fun j hj hjd => ((b3 j hj).resolve_right (fun h => h (hd.trans hjd.symm))).symm⟩
  · intro j hj _
    rcases h3 j hj with h | ⟨e, he, h⟩
    · exact .inl (by simpa using h)
    · refine .inr ⟨e, he, ?_⟩
      rcases h with h | h
      · exact .inl h
      · exact .inr (by simpa using h)
  · intro e he
    refine ⟨h2 e he, fun _ => by rw [hmask, if_pos (h2 e he)], fun i hi => ?_, fun j hj => hq e he j (.inl hj), fun j hj => ⟨hq e he j (.inr hj), ?_⟩⟩
    · obtain ⟨_, b4⟩ := h1 i hi
      exact b4 e he
    · obtain ⟨⟨⟨b1, _⟩, _⟩, _⟩ := h1 j (hq e he j (.inr hj))
      rw [hmask, if_pos b1]
  · intro j hj hjs
    unfold listedOf at hj
    rw [hmask, if_pos hjs] at hj; cases hj
  · intro t ht
    refine (hoff t fun j hj => ht j hj ?_).symm
    obtain ⟨⟨⟨b1, _⟩, _⟩, _⟩ := h1 j (List.mem_append.2 (.inl hj))
    rw [hmask, if_pos b1]
  · intro i hi o ho
    have hmem : i ∈ p ++ pre.flatMap fun e => e.1 :: (e.2.1 ++ e.2.2) := by
      rcases hi with h | ⟨e, he, h⟩
      · exact List.mem_append.2 (.inl h)
      · refine List.mem_append.2 (.inr (List.mem_flatMap.2 ⟨e, he, ?_⟩))
        rcases h with h | h | h
        · rw [h]; simp
        · simp [h]
        · simp [h]
    have := h11 i hmem
    rw [ho] at this
    simp only [Option.map_some, Option.getD_some, Bool.and_eq_true, Bool.not_eq_true', bne_iff_ne, ne_eq] at this
    obtain ⟨⟨g1, g2⟩, g3⟩ := this
    refine ⟨fun h => by simp [h] at g1, g2, fun cs b h => ?_⟩
    rw [h] at g3; cases g3
end
end Go.Am
set_option linter.unusedSimpArgs false
set_option linter.unusedVariables false
set_option linter.unusedSectionVars false
namespace Go.Ri
open Go Go.Am Go.RowKit
variable [SymE] [FT] [FTok]
def isAl (ops : Array Oper) (i : Nat) : Option (Tmp × TypeId) := match ops[i]? with
  | some o => (match o.dst, o.guard, o.op with
    | some d, none, .alloc t => some (d, t)
    | _, _, _ => none)
  | none => none
theorem isAl_spec {ops : Array Oper} {i : Nat} {d : Tmp} {t : TypeId} (h : isAl ops i = some (d, t)) : ∃ o, ops[i]? = some o ∧ o.dst = some d ∧ o.guard = none ∧ o.op = .alloc t := by
  unfold isAl at h
  split at h
  · rename_i o ho
    split at h
    · rename_i d' t' h1 h2 h3
      simp only [Option.some.injEq, Prod.mk.injEq] at h
      obtain ⟨rfl, rfl⟩ := h
      exact ⟨o, ho, h1, h2, h3⟩
    · cases h
  · cases h
noncomputable def cutX (ops : Array Oper) : Tl → Option (Tl × (Nat × List Nat × List Nat) × Tl) := List.rec (motive := fun _ => Option (Tl × (Nat × List Nat × List Nat) × Tl)) none
  (fun e r ih => match isAl ops e.1 with
    | some _ => some ([], e, r)
    | none => (match ih with
      | some (a, b, c) => some (e :: a, b, c)
      | none => none))
noncomputable def roAt (M M1 : Mem) (b : Nat) : Bool := match M1.at b with
  | none => true
  | some B => bif B.rw then true else (match M.at b with
    | none => false
    | some _ => true)
noncomputable def roChk (M M1 : Mem) (k : Nat) : Nat → Bool := Nat.rec (motive := fun _ => Nat → Bool) (fun b => roAt M M1 b) (fun k ih b => Bool.rec (motive := fun _ => Bool) false (ih (Nat.add b (Nat.pow 2 k))) (ih b)) k
noncomputable def roOk (M M1 : Mem) : Bool := roChk M M1 (Nat.succ (Nat.log2 M1.next)) 0
theorem roChk_spec {M M1 : Mem} : ∀ {k b : Nat}, roChk M M1 k b = true → ∀ c, b ≤ c → c < b + 2 ^ k → roAt M M1 c = true
  | 0, b, h, c, h1, h2 => by
    obtain rfl : c = b := by simp at h2; omega
    exact h
  | k + 1, b, h, c, h1, h2 => by
    have h : Bool.rec (motive := fun _ => Bool) false (roChk M M1 k (b + 2 ^ k)) (roChk M M1 k b) = true := h
    cases hb : roChk M M1 k b with
    | false => rw [hb] at h; cases h
    | true =>
      rw [hb] at h
      by_cases hc : c < b + 2 ^ k
      · exact roChk_spec hb c h1 hc
      · exact roChk_spec h c (by omega) (by rw [Nat.pow_succ] at h2; omega)
theorem roOk_spec {M M1 : Mem} (h : roOk M M1 = true) (b : Nat) (B : Blk) (hb : b < M1.abs.next) (hB : M1.abs.m b = some B) (hr : B.rw = false) : ∃ B0, M.abs.m b = some B0 := by
  have hlt : b < 2 ^ (Nat.log2 M1.next + 1) := Nat.lt_of_lt_of_le hb (Nat.le_of_lt Nat.lt_log2_self)
  have := roChk_spec h b (Nat.zero_le _) (by rw [Nat.zero_add]; exact hlt)
  unfold roAt at this
  have hB : (M1.at b).map RB.abs = some B := hB
  cases h1 : M1.at b with
  | none => rw [h1] at hB; cases hB
  | some C =>
    rw [h1] at hB this
    simp only [Option.map_some, Option.some.injEq] at hB
    subst hB
    have hr : C.rw = false := hr
    simp only [hr, cond_false] at this
    cases h0 : M.at b with
    | none => rw [h0] at this; cases this
    | some C0 => exact ⟨C0.abs, M.abs_m h0⟩
noncomputable def drawX (P : Program) (X : Exts) (C : Caller) (ops : Array Oper) (hs : List Nat) (pre : Tl) (e : Nat × List Nat × List Nat) (post : Tl) (ρ : T Value) (ds : List Deferred) (M : Mem) : OpsR := match drawR P X C ops hs pre ρ ds M with
  | .norm ρ1 ds1 M1 => bif roOk M M1 then tailR P X C ops (e :: post) ρ1 ds1 M1 else .bad
  | _ => .bad
noncomputable def linXo (P : Program) (ops : Array Oper) (hs : List Nat) (pre : Tl) (e : Nat × List Nat × List Nat) (post : Tl) : Bool := match isAl ops e.1 with
  | none => false
  | some (d, t) => linXOk ops e.1 d hs pre e.2.1 e.2.2 post && (match (P.info? t).bind (·.zero) with
    | none => false
    | some z => plains (cellsL z))
section
variable {P : Program} {X : Exts} {C : Caller} {N : Nat} {ops : Array Oper} {Kn : Env → List Deferred → AW → Prop} {Kp : List PanicEntry → Env → List Deferred → AW → Prop}
theorem linX_of {d : Tmp} {cells : List Value} {elem esz : Nat} {mk : Nat → Value} {qx nhx : List Nat} {post : Tl} {awS : AW} {ρ1 : Env} {ds1 : List Deferred} {aw1 : AW} (H : LinX P ops d cells elem esz mk qx nhx post awS Kn Kp [] ρ1 ds1 aw1) :
    ∀ {pre : Tl} {ρ : Env} {ds : List Deferred} {aw : AW}, LinT P ops (fun ρ' ds' aw' => ρ' = ρ1 ∧ ds' = ds1 ∧ aw' = aw1) (fun _ _ _ _ => False) pre ρ ds aw → LinX P ops d cells elem esz mk qx nhx post awS Kn Kp pre ρ ds aw
  | [], ρ, ds, aw, h => by
    obtain ⟨rfl, rfl, rfl⟩ := h
    exact H
  | (t, q, nh) :: r, ρ, ds, aw, h => by
    obtain ⟨o, ho, hs⟩ := h
    refine ⟨o, ho, ?_⟩
    cases hs with
    | val h hn =>
      obtain ⟨ρ2, k1, k2, k3⟩ := hn
      exact .val h ⟨ρ2, k1, k2, linX_of H k3⟩
    | skip h hn =>
      obtain ⟨ρ2, k1, k2, k3⟩ := hn
      exact .skip h ⟨ρ2, k1, k2, linX_of H k3⟩
    | call h hn =>
      refine .call h (ACalls.mono hn fun e aw' he => ?_)
      cases e with
      | returned v =>
        obtain ⟨ρ2, k1, k2, k3⟩ := he
        exact ⟨ρ2, k1, k2, linX_of H k3⟩
      | panicked ch => exact he
    | panic h hn => exact .panic h hn
theorem drawX_spec (hX : ExtOk P X) (hC : CS P C) (hm : P.follows .mixedOrders = true) (hN : dstsOk N ops = true) {hs : List Nat} {pre : Tl} {e : Nat × List Nat × List Nat} {post : Tl} (hok : linXo P ops hs pre e post = true) {id : Nat} {k : List Item} {R : ADone → Env → List Deferred → AW → Prop} {ρ : T Value} {ds : List Deferred} {M : Mem}
    (h : (drawX P X C ops hs pre e post ρ ds M).holdsX ops (fun ρ' ds' aw' => AGo P N k ρ' ds' aw' R) (fun ch ρ' ds' aw' => R (.panic ch) ρ' ds' aw')) : AGo P N (.code (.region id ops true) :: k) (slot ρ) ds M.abs R := by
  obtain ⟨x, qx, nhx⟩ := e
  unfold linXo at hok
  split at hok
  · cases hok
  rename_i d t hal
  obtain ⟨o, ho, hd, hg, hop⟩ := isAl_spec hal
  rw [Bool.and_eq_true] at hok
  obtain ⟨hok, hz⟩ := hok
  split at hz
  · cases hz
  rename_i z hzz
  unfold drawX at h
  split at h
  case h_2 => exact h.elim
  rename_i ρ1 ds1 M1 hdr
  cases hro : roOk M M1 with
  | false => rw [hro] at h; exact h.elim
  | true =>
  rw [hro] at h
  simp only [cond_true] at h
  unfold drawR at hdr
  split at hdr
  · cases hdr
  rename_i ρ0 hh
  cases hb : again P ops (slot ρ0) M hs with
  | false => rw [hb] at hdr; cases hdr
  | true =>
  rw [hb] at hdr
  simp only [cond_true] at hdr
  have hcl : cellsL z = z.cells.toList := cellsL_eq z
  have hmk : Makes P o z.cells.toList t 0 (fun b => .pointer (some ⟨b, 0, none⟩)) := by
    refine ⟨by rw [← hcl]; exact hz, fun f w => ?_, fun s b e he h0 => ?_⟩
    · simp only [execOp, hop, Instr.alloc, Sem.run_bind, run_zeroValue' hzz, Result.andThen_ok, newVar, run_newRow, Sem.run_pure]
    · have := VR.ptr (s := s) (o := 0) he
      rw [h0] at this
      simpa using this
  have hlin : LinT P ops (fun ρ' ds' aw' => ρ' = slot ρ1 ∧ ds' = ds1 ∧ aw' = M1.abs) (fun _ _ _ _ => False) pre (slot ρ0) ds M.abs := tail_spec hX hC (by rw [hdr]; exact ⟨rfl, rfl, rfl⟩)
  refine ago_drawX hm hN hok ho hg hd hmk (heads_spec hh) (again_spec hb) (linX_of ⟨roOk_spec hro, ?_⟩ hlin)
  have h : OpsR.holdsX ops _ _ (match ops[x]? with
      | none => OpsR.bad
      | some o => (match o.op with
        | .defer _ => .bad
        | _ => op1 P X C ops o ρ1 ds1 M1 fun ρ ds M => (match heads P ops M nhx ρ with
          | none => .bad
          | some ρ => bif again P ops (slot ρ) M (qx ++ nhx) then tailR P X C ops post ρ ds M else .bad))) := h
  rw [ho] at h
  simp only [hop, op1, hg, gd] at h
  have hal : eOp P (slot ρ1) M1 (.alloc t) = some (.pointer (some ⟨M1.next, 0, none⟩), M1.alloc (cellsL z) t 0) := by
    show eAlloc P M1 t = _
    unfold eAlloc
    rw [hzz]
    simp only [hz, cond_true]
  rw [hal] at h
  simp only [doV_eq, doT_eq, doM_eq] at h
  split at h
  · exact h.elim
  rename_i ρ2 hh2
  cases hb2 : again P ops (slot ρ2) (M1.alloc (cellsL z) t 0) (qx ++ nhx) with
  | false => rw [hb2] at h; exact h.elim
  | true =>
    rw [hb2] at h
    simp only [cond_true] at h
    have ha : (M1.alloc (cellsL z) t 0).abs = M1.abs.alloc z.cells.toList t 0 := by rw [← hcl]; exact Mem.alloc_spec ..
    have k1 := heads_spec hh2
    have k2 := again_spec hb2
    have k3 := tail_spec hX hC h
    rw [ha] at k2 k3
    rw [slot_put, hd] at k1
    exact ⟨slot ρ2, k1, k2, k3⟩
end
end Go.Ri
set_option linter.unusedSimpArgs false
set_option linter.unusedVariables false
set_option linter.unusedSectionVars false
namespace Go.Am
open Go Go.RowKit
variable [SymE]
structure Flo where
  x : Nat
  d : Tmp
  cells : List Value
  elem : Nat
  esz : Nat
  ref : Nat → Value
structure MakesR (P : Program) (ops : Array Oper) (o : Oper) (ρ : Env) (F : Flo) : Prop where
  pl : plains F.cells = true
  run : ∀ (ρ' : Env), Agr ops o ρ ρ' → ∀ (s : Inj) (f : Operand → Value) (w : World), (∀ y, okOpd P.globals.size y = true → VR s (ρ'.eval y) (f y)) → (execOp f o).run P w = .ok (.value (F.ref w.heap.size)) (w.alloc (.cells F.cells.toArray F.elem (0, 0)))
  vr : ∀ (s : Inj) (b : Nat) (e : Ent), s b = some e → e.off = 0 → VR s (F.ref b) (F.ref e.cb)
def hide (D : List Tmp) (ρ : Env) : Env := fun t => if t ∈ D then undef else ρ t
def hideA : List Tmp → Act → Act
  | [], a => a
  | d :: D, a => (hideA D a).put (some d) undef
theorem hide_put {D : List Tmp} {ρ : Env} {x : Option Tmp} {v : Value} (h : ∀ d ∈ D, x ≠ some d) : hide D (ρ.put x v) = (hide D ρ).put x v := by
  cases x with
  | none => rfl
  | some x =>
    funext t
    simp only [hide, Env.put_some]
    by_cases ht : t ∈ D
    · rw [if_pos ht, if_pos ht, if_neg]
      rintro rfl
      exact h _ ht rfl
    · rw [if_neg ht, if_neg ht]
theorem hideA_put {x : Option Tmp} {v : Value} : ∀ {D : List Tmp} {a : Act}, (∀ d ∈ D, x ≠ some d) → hideA D (a.put x v) = (hideA D a).put x v
  | [], _, _ => rfl
  | d :: D, a, h => by
    simp only [hideA]
    rw [hideA_put (fun e he => h e (List.mem_cons_of_mem _ he)), Act.put_comm _ v undef (fun e he h' => h d (List.mem_cons_self ..) (he.trans (by rw [← h'])))]
theorem hideA_size : ∀ (D : List Tmp) (a : Act), (hideA D a).tmps.size = a.tmps.size
  | [], _ => rfl
  | d :: D, a => by simp only [hideA, put_size, hideA_size D a]
theorem hideA_defers : ∀ (D : List Tmp) (a : Act), (hideA D a).defers = a.defers
  | [], _ => rfl
  | d :: D, a => by simp only [hideA, put_defers, hideA_defers D a]
theorem put_getD_undef (a : Act) (d t : Tmp) : (a.put (some d) undef).tmps.getD t undef = if t = d then undef else a.tmps.getD t undef := by
  by_cases h : t = d
  · subst h
    rw [if_pos rfl]
    simp only [Act.put, Array.getD_eq_getD_getElem?, Array.getElem?_setIfInBounds]
    simp only [if_true]
    split <;> rfl
  · rw [if_neg h]
    simp only [Act.put, Array.getD_eq_getD_getElem?, Array.getElem?_setIfInBounds]
    rw [if_neg (fun e => h e.symm)]
theorem hideA_getD : ∀ (D : List Tmp) (a : Act) (t : Tmp), (hideA D a).tmps.getD t undef = if t ∈ D then undef else a.tmps.getD t undef
  | [], _, _ => by simp [hideA]
  | d :: D, a, t => by
    simp only [hideA]
    rw [put_getD_undef, hideA_getD D a t]
    by_cases h : t = d
    · rw [if_pos h, if_pos (by rw [h]; exact List.mem_cons_self ..)]
    · rw [if_neg h]
      by_cases h2 : t ∈ D
      · rw [if_pos h2, if_pos (List.mem_cons_of_mem _ h2)]
      · rw [if_neg h2, if_neg (fun hm => (List.mem_cons.1 hm).elim h h2)]
section
variable {ops : Array Oper} {o : Oper}
theorem execOp_hide (hs : ∀ cs b, o.op ≠ .select cs b) : ∀ {D : List Tmp} (a : Act), (∀ d ∈ D, d ∉ looks ops o) → execOp a.eval o = execOp (hideA D a).eval o
  | [], _, _ => rfl
  | d :: D, a, h => by
    simp only [hideA]
    rw [execOp_put (ops := ops) o hs (hideA D a) (some d) undef (fun e he => by obtain rfl := Option.some.inj he; exact h d (List.mem_cons_self ..))]
    exact execOp_hide hs a (fun e he => h e (List.mem_cons_of_mem _ he))
theorem wanted_hide : ∀ {D : List Tmp} (a : Act), (∀ d ∈ D, d ∉ looks ops o) → Region.wanted o (yielded ops a.tmps) = Region.wanted o (yielded ops (hideA D a).tmps)
  | [], _, _ => rfl
  | d :: D, a, h => by
    simp only [hideA]
    rw [wanted_put o (hideA D a) (some d) undef (fun e he => by obtain rfl := Option.some.inj he; exact h d (List.mem_cons_self ..))]
    exact wanted_hide a (fun e he => h e (List.mem_cons_of_mem _ he))
theorem looks_hide {D : List Tmp} {ρ : Env} (h : ∀ d ∈ D, d ∉ looks ops o) : Agr ops o ρ (hide D ρ) := fun t ht => by
  unfold hide
  rw [if_neg (fun hm => h t hm ht)]
end
section
variable {G : Nat} {base : Nat → Prop} {w0 : World} {s : Inj} {aw : AW} {w : World}
theorem Rel.keepAll (h : Rel G base w0 s aw w) {L : List Nat} (hc : ∀ c ∈ L, c < w.heap.size) (hs : ∀ b B e, aw.m b = some B → B.rw = true → s b = some e → e.cb ∉ L) : Rel G (fun k => base k ∨ k ∈ L) w s aw w :=
  ⟨h.fresh, h.mfresh, fun b B hB => by
    obtain ⟨e, cs', fz', h1, h2, h3, h4, h5, h6, h7⟩ := h.blk b B hB
    refine ⟨e, cs', fz', h1, h2, h3, h4, h5, h6, fun hr => ⟨fun hk => ?_, (h7 hr).2⟩⟩
    rcases hk with hk | hk
    · exact (h7 hr).1 hk
    · exact hs b B e hB hr h1 hk, h.sep, fun k hk => hk.elim (h.hbase k) (hc k), h.glob, Keep.refl _ _⟩
end
abbrev Apt := List (Flo × Nat)
abbrev Apt.ds (A : Apt) : List Tmp := A.map fun p => p.1.d
abbrev Apt.cbs (A : Apt) : List Nat := A.map fun p => p.2
structure SG (G : Nat) (base : Nat → Prop) (w0 : World) (s0 : Inj) (N : Nat) (A : Apt) (lo : Nat) (ρ : Env) (ds : List Deferred) (aw : AW) (a : Act) (w : World) : Prop where
  ex : ∃ s1, s0.le s1 ∧ St G base w0 s1 (hide A.ds ρ) N ds aw (hideA A.ds a) w
  low : lo ≤ w.heap.size
  apt : ∀ p ∈ A, w.heap[p.2]? = some (.cells p.1.cells.toArray p.1.elem (0, 0)) ∧ ¬ base p.2 ∧ lo ≤ p.2 ∧ a.tmps[p.1.d]? = some (p.1.ref p.2)
  nd : A.cbs.Nodup
section
variable {P : Program} {N : Nat} {ops : Array Oper} {i : Nat} {o : Oper} {K : Act → World → Prop} {Q : Exit → Act → World → Prop} {a : Act} {w wS : World}
  {base : Nat → Prop} {w0 : World} {s0 : Inj} {ρ : Env} {ds : List Deferred} {aw : AW} {v : Value} {A : Apt}
theorem SG.read (h : SG P.globals.size base w0 s0 N A wS.heap.size ρ ds aw a w) (hS : Rel P.globals.size base w0 s0 aw wS) (hN : dstsOk N ops = true) (ho : ops[i]? = some o) (hq : ∀ p ∈ A, Early ops p.1.d o)
    (hv : ∀ ρ2, Agr ops o ρ ρ2 → (wants ops o ρ2 true ∧ OpV P o ρ2 aw v aw) ∨ (wants ops o ρ2 false ∧ v = undef) ∨ (wants ops o ρ2 true ∧ ∃ fid args, OpC P o ρ2 fid args ∧ ACalls P fid args aw fun e aw' => e = .returned v ∧ aw' = aw))
    (hk : ∀ a' w', SG P.globals.size base w0 s0 N A wS.heap.size (ρ.put o.dst v) ds aw a' w' → K a' w') : wpOp P ops Q i K a w := by
  obtain ⟨⟨s1, h1, h2⟩, h3, h4, h5⟩ := h
  have hdn : ∀ d ∈ A.ds, o.dst ≠ some d := fun d hd => by
    obtain ⟨p, hp, rfl⟩ := List.mem_map.1 hd
    exact (hq p hp).2.1
  have hdl : ∀ d ∈ A.ds, d ∉ looks ops o := fun d hd => by
    obtain ⟨p, hp, rfl⟩ := List.mem_map.1 hd
    exact (hq p hp).1
  rcases Classical.em (A = []) with hA | hA
  · subst hA
    rcases hv (hide [] ρ) (looks_hide hdl) with ⟨g1, g2⟩ | ⟨g1, rfl⟩ | ⟨g1, fid, args, g2, g3⟩
    · exact gen_val ho hN h2 h2.rel.re (fun _ h => h) rfl rfl g1 g2 fun s' v' w' k1 k2 k3 => hk _ _ ⟨⟨s', Inj.le_trans h1 k1, by rw [hide_put (fun d hd => hdn d hd), hideA_put (fun d hd => hdn d hd)]; exact k2⟩, Nat.le_trans h3 k3.below.size, (fun p hp => by cases hp), List.nodup_nil⟩
    · exact gen_skip ho hN h2 h2.rel.re rfl g1 fun k2 => hk _ _ ⟨⟨s1, h1, by rw [hide_put (fun d hd => hdn d hd), hideA_put (fun d hd => hdn d hd)]; exact k2⟩, h3, (fun p hp => by cases hp), List.nodup_nil⟩
    · refine gen_call (R := fun u aw' => u = v ∧ aw' = aw) ho hN h2 h2.rel.re (fun _ h => h) rfl rfl g1 g2 (g3.mono fun e aw' he => by obtain ⟨rfl, rfl⟩ := he; exact ⟨rfl, rfl⟩) ?_
      rintro s' u v' aw' w' ⟨rfl, rfl⟩ k1 k2 k3
      exact hk _ _ ⟨⟨s', Inj.le_trans h1 k1, by rw [hide_put (fun d hd => hdn d hd), hideA_put (fun d hd => hdn d hd)]; exact k2⟩, Nat.le_trans h3 k3.below.size, (fun p hp => by cases hp), List.nodup_nil⟩
  · have hsel : ∀ cs b, o.op ≠ .select cs b := by
      cases A with
      | nil => exact absurd rfl hA
      | cons p0 A0 => exact (hq p0 (List.mem_cons_self ..)).2.2
    have hE : execOp a.eval o = execOp (hideA A.ds a).eval o := execOp_hide hsel a hdl
    have hW : Region.wanted o (yielded ops a.tmps) = Region.wanted o (yielded ops (hideA A.ds a).tmps) := wanted_hide a hdl
    have hx : Rel P.globals.size (fun k => base k ∨ k ∈ A.cbs) w s1 aw w := h2.rel.keepAll (fun c hc => by
      obtain ⟨p, hp, rfl⟩ := List.mem_map.1 hc
      exact (Array.getElem?_eq_some_iff.1 (h4 p hp).1).1) (fun b B e hb hr he hm => by
      obtain ⟨p, hp, hpe⟩ := List.mem_map.1 hm
      obtain ⟨e0, cs, fz, g1, _⟩ := hS.blk b B hb
      have g2 := h1 b e0 g1
      rw [he] at g2; obtain rfl := Option.some.inj g2
      have := hS.cbLt hb g1
      have := (h4 p hp).2.2.1
      omega)
    have fin : ∀ s' v' w', s1.le s' → St P.globals.size base w0 s' ((hide A.ds ρ).put o.dst v) N ds aw ((hideA A.ds a).put o.dst v') w' → Rel P.globals.size (fun k => base k ∨ k ∈ A.cbs) w s' aw w' → K (a.put o.dst v') w' := fun s' v' w' k1 k2 k3 => by
      refine hk _ _ ⟨⟨s', Inj.le_trans h1 k1, by rw [hide_put hdn, hideA_put hdn]; exact k2⟩, Nat.le_trans h3 k3.below.size, fun p hp => ?_, h5⟩
      obtain ⟨q1, q2, q3, q4⟩ := h4 p hp
      exact ⟨(k3.below.block p.2 (.inr (List.mem_map.2 ⟨p, hp, rfl⟩))).trans q1, q2, q3, by rw [act_get_ne a v' (hq p hp).2.1]; exact q4⟩
    rcases hv (hide A.ds ρ) (looks_hide hdl) with ⟨g1, g2⟩ | ⟨g1, rfl⟩ | ⟨g1, fid, args, g2, g3⟩
    · exact gen_val ho hN h2 hx (fun _ h => .inl h) hE hW g1 g2 fin
    · exact gen_skip ho hN h2 h2.rel.re hW g1 fun k2 => fin s1 undef w (Inj.le_refl s1) k2 hx
    · refine gen_call (R := fun u aw' => u = v ∧ aw' = aw) ho hN h2 hx (fun _ h => .inl h) hE hW g1 g2 (g3.mono fun e aw' he => by obtain ⟨rfl, rfl⟩ := he; exact ⟨rfl, rfl⟩) ?_
      rintro s' u v' aw' w' ⟨rfl, rfl⟩ k1 k2 k3
      exact fin s' v' w' k1 k2 k3
theorem SG.make {F : Flo} (h : SG P.globals.size base w0 s0 N A wS.heap.size ρ ds aw a w) (ho : ops[i]? = some o) (hg : o.guard = none) (hd : o.dst = some F.d) (hdN : F.d < N) (hm : MakesR P ops o ρ F) (hnew : F.d ∉ A.ds)
    (hsel : ∀ cs b, o.op ≠ .select cs b) (hdl : ∀ d ∈ A.ds, d ∉ looks ops o)
    (hk : ∀ a' w' cb, SG P.globals.size base w0 s0 N ((F, cb) :: A) wS.heap.size ρ ds aw a' w' → K a' w') : wpOp P ops Q i K a w := by
  obtain ⟨⟨s1, h1, h2⟩, h3, h4, h5⟩ := h
  have hw : Region.wanted o (yielded ops a.tmps) = true := by unfold Region.wanted; rw [hg]
  have hE : execOp a.eval o = execOp (hideA A.ds a).eval o := execOp_hide hsel a hdl
  simp only [wpOp, ho, if_pos hw]
  left
  unfold Oper.wp
  rw [hE, hm.run (hide A.ds ρ) (looks_hide hdl) s1 _ w (fun y hy => h2.eval hy)]
  have hda : F.d < a.tmps.size := by have := h2.size; rw [hideA_size] at this; rw [this]; exact hdN
  refine hk _ _ w.heap.size ⟨⟨s1, h1, ?_⟩, ?_, ?_, ?_⟩
  · have e1 : hide (Apt.ds ((F, w.heap.size) :: A)) ρ = (hide A.ds ρ).put (some F.d) undef := by
      funext t
      simp only [hide, Env.put_some, Apt.ds, List.map_cons, List.mem_cons]
      by_cases ht : t = F.d
      · rw [if_pos (.inl ht), if_pos ht]
      · rw [if_neg ht]
        by_cases ht2 : t ∈ List.map (fun p : Flo × Nat => p.1.d) A
        · rw [if_pos (.inr ht2), if_pos ht2]
        · rw [if_neg (fun h => h.elim ht ht2), if_neg ht2]
    have e2 : hideA (Apt.ds ((F, w.heap.size) :: A)) (a.put o.dst (F.ref w.heap.size)) = (hideA A.ds a).put (some F.d) undef := by
      show (hideA A.ds (a.put o.dst (F.ref w.heap.size))).put (some F.d) undef = _
      rw [hd, hideA_put (fun d hd' h' => hnew (by obtain rfl := Option.some.inj h'; exact hd')), act_put_put]
    rw [e1, e2]
    refine ⟨h2.rel.grow _, put_env h2.env (fun e he => by obtain rfl := Option.some.inj he; rw [hideA_size]; exact hda) VR.undef, by rw [put_size]; exact h2.size, by rw [put_defers]; exact h2.dfr, ?_, by rw [put_defers]; exact h2.nd⟩
    rw [put_defers]
    intro r hr
    obtain ⟨g1, g2⟩ := h2.mrk r hr
    exact ⟨g1, by rw [Below.heap_alloc _ _ _ (Array.getElem?_eq_some_iff.1 g2).1]; exact g2⟩
  · show wS.heap.size ≤ (w.heap.push _).size
    simp; omega
  · intro p hp
    rcases List.mem_cons.1 hp with rfl | hp
    · refine ⟨?_, fun hb => absurd (h2.rel.hbase _ hb) (Nat.lt_irrefl _), h3, ?_⟩
      · show (w.heap.push _)[w.heap.size]? = _
        simp
      · rw [hd]; simp [Act.put, hda]
    · obtain ⟨q1, q2, q3, q4⟩ := h4 p hp
      refine ⟨by rw [Below.heap_alloc _ _ _ (Array.getElem?_eq_some_iff.1 q1).1]; exact q1, q2, q3, ?_⟩
      rw [hd, act_get_ne a _ (fun h => hnew (by obtain h := Option.some.inj h; rw [h]; exact List.mem_map.2 ⟨p, hp, rfl⟩))]
      exact q4
  · simp only [Apt.cbs, List.map_cons, List.nodup_cons]
    refine ⟨fun hm => ?_, h5⟩
    obtain ⟨p, hp, hpe⟩ := List.mem_map.1 hm
    have := (Array.getElem?_eq_some_iff.1 (h4 p hp).1).1
    omega
end
def putsF : List Flo → Nat → Env → Env
  | [], _, ρ => ρ
  | F :: r, n, ρ => putsF r (n + 1) (ρ.put (some F.d) (F.ref n))
def allocs : List Flo → AW → AW
  | [], aw => aw
  | F :: r, aw => allocs r (aw.alloc F.cells F.elem F.esz)
section
variable {G N : Nat} {base : Nat → Prop} {w0 : World} {ds : List Deferred} {a : Act} {w : World}
theorem meet_all (cb : Flo → Nat) : ∀ (xs : List Flo) (s : Inj) (ρ : Env) (aw : AW), Rel G base w0 s aw w → (∀ t, t ∉ xs.map (·.d) → VR s (ρ t) (a.tmps.getD t undef)) → (xs.map (·.d)).Nodup → (xs.map cb).Nodup →
    (∀ F ∈ xs, w.heap[cb F]? = some (.cells F.cells.toArray F.elem (0, 0)) ∧ ¬ base (cb F) ∧ a.tmps[F.d]? = some (F.ref (cb F)) ∧ plains F.cells = true ∧ (∀ (s : Inj) (b : Nat) (e : Ent), s b = some e → e.off = 0 → VR s (F.ref b) (F.ref e.cb)) ∧
      ∀ b B e, aw.m b = some B → s b = some e → e.cb ≠ cb F) →
    ∃ s', s.le s' ∧ Rel G base w0 s' (allocs xs aw) w ∧ ∀ t, VR s' (putsF xs aw.next ρ t) (a.tmps.getD t undef)
  | [], s, ρ, aw, hr, he, _, _, _ => ⟨s, Inj.le_refl s, hr, fun t => he t (by simp)⟩
  | F :: r, s, ρ, aw, hr, he, hn1, hn2, hF => by
    obtain ⟨f1, f2, f3, f4, f5, f6⟩ := hF F (List.mem_cons_self ..)
    obtain ⟨s1, k1, k2, k3⟩ := hr.attach F.elem F.esz f4 f1 f2 f6
    simp only [List.map_cons, List.nodup_cons] at hn1 hn2
    have := meet_all cb r s1 (ρ.put (some F.d) (F.ref aw.next)) (aw.alloc F.cells F.elem F.esz) k3 (fun t ht => ?_) hn1.2 hn2.2 (fun H hH => ?_)
    · obtain ⟨s2, j1, j2, j3⟩ := this
      exact ⟨s2, Inj.le_trans k1 j1, j2, j3⟩
    · rw [put_at]
      by_cases htd : t = F.d
      · rw [if_pos htd, htd]
        have e : a.tmps.getD F.d undef = F.ref (cb F) := by
          obtain ⟨q1, q2⟩ := Array.getElem?_eq_some_iff.1 f3
          simp [Array.getD, q1, q2]
        rw [e]
        exact f5 s1 _ _ k2 rfl
      · rw [if_neg htd]
        exact (he t (fun hm => (List.mem_cons.1 hm).elim htd ht)).mono k1
    · obtain ⟨g1, g2, g3, g4, g5, g6⟩ := hF H (List.mem_cons_of_mem _ hH)
      refine ⟨g1, g2, g3, g4, g5, fun b B e hb hs => ?_⟩
      simp only [AW.alloc] at hb
      by_cases hbn : b = aw.next
      · subst hbn
        rw [k2] at hs
        obtain rfl := Option.some.inj hs
        exact fun h => hn2.1 (by have h : cb F = cb H := h; rw [h]; exact List.mem_map.2 ⟨H, hH, rfl⟩)
      · rw [if_neg hbn] at hb
        obtain ⟨e', cs, fz, q1, _⟩ := hr.blk b B hb
        have := k1 b e' q1
        rw [hs] at this; obtain rfl := Option.some.inj this
        exact g6 b B _ hb q1
end
end Go.Am
set_option linter.unusedSimpArgs false
set_option linter.unusedVariables false
set_option linter.unusedSectionVars false
namespace Go.Am
open Go Go.RowKit
variable [SymE]
theorem putsF_congr {t : Tmp} : ∀ (xs : List Flo) (n : Nat) (ρ ρ' : Env), (t ∈ xs.map (·.d) ∨ ρ t = ρ' t) → putsF xs n ρ t = putsF xs n ρ' t
  | [], _, _, _, h => by
    rcases h with h | h
    · cases h
    · exact h
  | F :: r, n, ρ, ρ', h => by
    refine putsF_congr r (n + 1) _ _ ?_
    by_cases hr : t ∈ r.map (·.d)
    · exact .inl hr
    · refine .inr ?_
      rw [put_at, put_at]
      by_cases hd : t = F.d
      · rw [if_pos hd, if_pos hd]
      · rw [if_neg hd, if_neg hd]
        rcases h with h | h
        · exact ((List.mem_cons.1 h).elim hd hr).elim
        · exact h
def LinG (P : Program) (ops : Array Oper) (xs : List Flo) (q nh : List Nat) (post : Tl) (Kn : Env → List Deferred → AW → Prop) (Kp : List PanicEntry → Env → List Deferred → AW → Prop) (ρ : Env) (ds : List Deferred) (aw : AW) : Prop :=
  ∃ ρ2, OffL ops nh (putsF xs aw.next ρ) ρ2 ∧ FFl P ops (q ++ nh) ρ2 (allocs xs aw) ∧ LinT P ops Kn Kp post ρ2 ds (allocs xs aw)
section
variable {P : Program} {N : Nat} {ops : Array Oper} {hs : List Nat} {Kn : Env → List Deferred → AW → Prop} {Kp : List PanicEntry → Env → List Deferred → AW → Prop}
  {base : Nat → Prop} {w0 : World} {s0 : Inj} {wS : World} {aw : AW} {ρ : Env} {ds : List Deferred} {xs : List Flo} {p q nh : List Nat} {post : Tl}
theorem lin_grp (hN : dstsOk N ops = true) (hst : ∀ i ∈ hs, i < ops.size ∧ ∃ d, dstOf ops i = some d ∧ ∀ j ∈ hs, dstOf ops j = some d → j = i)
    (hord : ((List.range ops.size).all fun j => ((ops[j]?).map fun (o : Oper) => o.after.all fun e => !Region.binds .any e || decide (e.on < j)).getD true) = true)
    (hlk : ((List.range ops.size).all fun j => ((ops[j]?).map fun (o : Oper) => (looks ops o).all fun t => hs.all fun i => dstOf ops i != some t || anc ops ops.size j i).getD true) = true)
    (hS : Rel P.globals.size base w0 s0 aw wS)
    (hx : ∀ F ∈ xs, ∃ o, ops[F.x]? = some o ∧ o.guard = none ∧ o.dst = some F.d ∧ MakesR P ops o ρ F ∧ (∀ cs b, o.op ≠ .select cs b) ∧ ∀ H ∈ xs, H.d ∉ looks ops o)
    (hxd : (xs.map (·.d)).Nodup) (hxx : (xs.map (·.x)).Nodup) (hxh : ∀ F ∈ xs, ∀ i ∈ hs, i ≠ F.x)
    (hpo : ∀ i ∈ post, i.1 < ops.size ∧ (∀ j ∈ hs, dstOf ops j ≠ dstOf ops i.1 ∧ j ≠ i.1) ∧ (∀ F ∈ xs, i.1 ≠ F.x) ∧ (∀ j ∈ i.2.1, j ∈ hs) ∧ ∀ j ∈ i.2.2, j ∈ hs)
    (hp : ∀ i ∈ p, i ∈ hs) (hqn : ∀ i ∈ q ++ nh, i ∈ hs)
    (hcov : ∀ j, j < ops.size → j ∈ p ∨ (∃ F ∈ xs, j = F.x) ∨ j ∈ nh ∨ ∃ e ∈ post, j = e.1 ∨ j ∈ e.2.2)
    (hch : chainOk ops (post.map (·.1)) = true) (hfirst : ∀ e r, post = e :: r → ∀ F ∈ xs, anc ops ops.size e.1 F.x = true) (hnh : ∀ i ∈ nh, ∀ F ∈ xs, anc ops ops.size i F.x = true)
    (hpq : ∀ i ∈ p, i ∈ q ∨ ∃ F ∈ xs, anc ops ops.size F.x i = true) (hpend : pendOk ops (q ++ nh) post = true) (hnd : (post.map (·.1)).Nodup)
    (hnp : ∀ i ∈ nh, i ∉ p) (hea : ∀ i ∈ p, ∀ o, ops[i]? = some o → ∀ F ∈ xs, Early ops F.d o) (hff : FFl P ops p ρ aw) (hlin : LinG P ops xs q nh post Kn Kp ρ ds aw) :
    ∀ (n : Nat) (l : Array Bool) (A : Apt) (ρ' : Env) (a : Act) (w : World), l.size = ops.size → left l = n →
      (∀ j, j < ops.size → l.getD j true = true → j ∈ p ∨ ∃ F ∈ xs, j = F.x) → (∀ F ∈ xs, l.getD F.x true = true ↔ F ∈ A.map (·.1)) → (∀ c ∈ A, c.1 ∈ xs) →
      (∀ j, listedOf l j = true → j < ops.size → ∀ o, ops[j]? = some o → ∀ e ∈ o.after, Region.binds .any e = true → l.getD e.on false = true) →
      (∀ t, (∀ i ∈ p, l.getD i true = false → dstOf ops i ≠ some t) → ρ' t = ρ t) →
      SG P.globals.size base w0 s0 N A wS.heap.size ρ' ds aw a w →
      wpAny P .any ops (QQ P.globals.size base w0 s0 N Kn Kp) n l a w := by
  have hord0 := hord
  have hlk0 := hlk
  simp only [List.all_eq_true, List.mem_range, decide_eq_true_eq] at hord hlk
  have hxs : ∀ F ∈ xs, F.x < ops.size := fun F hF => by
    obtain ⟨o, ho, _⟩ := hx F hF
    exact (Array.getElem?_eq_some_iff.1 ho).1
  intro n
  have met : ∀ (n : Nat) (l : Array Bool) (A : Apt) (ρ' : Env) (a : Act) (w : World), l.size = ops.size → left l = n →
      (∀ j, j < ops.size → l.getD j true = true → j ∈ p ∨ ∃ F ∈ xs, j = F.x) → (∀ F ∈ xs, F ∈ A.map (·.1)) → (∀ F ∈ xs, l.getD F.x true = true) → (∀ c ∈ A, c.1 ∈ xs) →
      (∀ j, listedOf l j = true → j < ops.size → ∀ o, ops[j]? = some o → ∀ e ∈ o.after, Region.binds .any e = true → l.getD e.on false = true) →
      (∀ t, (∀ i ∈ p, l.getD i true = false → dstOf ops i ≠ some t) → ρ' t = ρ t) →
      SG P.globals.size base w0 s0 N A wS.heap.size ρ' ds aw a w →
      wpAny P .any ops (QQ P.globals.size base w0 s0 N Kn Kp) n l a w := by
    intro n l A ρ' a w hl hf hdone hall hlist hsub hcl hag hsg
    obtain ⟨⟨s1, h1, h2⟩, h3, h4, h5⟩ := hsg
    obtain ⟨ρ2, ho2, hff2, hlin2⟩ := hlin
    have hex : ∀ F ∈ xs, ∃ c, (F, c) ∈ A := fun F hF => by
      obtain ⟨⟨F', c⟩, hc, rfl⟩ := List.mem_map.1 (hall F hF)
      exact ⟨c, hc⟩
    let cb : Flo → Nat := fun F => open Classical in if h : ∃ c, (F, c) ∈ A then Classical.choose h else 0
    have hcb : ∀ F ∈ xs, (F, cb F) ∈ A := fun F hF => by
      have h := hex F hF
      have : cb F = Classical.choose h := dif_pos h
      rw [this]; exact Classical.choose_spec h
    have hinj : ∀ F ∈ xs, ∀ H ∈ xs, cb F = cb H → F = H := fun F hF H hH he => by
      have a1 := hcb F hF
      have a2 := hcb H hH
      rw [← he] at a2
      have key : ∀ (A : Apt), A.cbs.Nodup → (F, cb F) ∈ A → (H, cb F) ∈ A → F = H := by
        intro A
        induction A with
        | nil => intro _ h _; cases h
        | cons z A ih =>
          intro hn b1 b2
          simp only [Apt.cbs, List.map_cons, List.nodup_cons] at hn
          rcases List.mem_cons.1 b1 with b1 | b1
          · rcases List.mem_cons.1 b2 with b2 | b2
            · rw [← b1] at b2; injection b2 with b2; exact b2.symm
            · exact absurd (List.mem_map.2 ⟨_, b2, by rw [← b1]⟩) hn.1
          · rcases List.mem_cons.1 b2 with b2 | b2
            · exact absurd (List.mem_map.2 ⟨_, b1, by rw [← b2]⟩) hn.1
            · exact ih hn.2 b1 b2
      exact key A h5 a1 a2
    have hxn : xs.Nodup := by
      have := hxd
      rw [List.nodup_iff_pairwise_ne, List.pairwise_map] at this
      rw [List.nodup_iff_pairwise_ne]
      exact this.imp fun h e => h (by rw [e])
    have hcn : (xs.map cb).Nodup := by
      rw [List.nodup_iff_pairwise_ne, List.pairwise_map]
      rw [List.nodup_iff_pairwise_ne] at hxn
      exact hxn.imp_of_mem fun hF hH hne he => hne (hinj _ hF _ hH he)
    have hsz : a.tmps.size = N := by have := h2.size; rwa [hideA_size] at this
    obtain ⟨s2, k1, k2, k3⟩ := meet_all (a := a) cb xs s1 ρ' aw h2.rel (fun t ht => by
      have ht' : t ∉ A.ds := fun hm => by
        obtain ⟨c, hc, rfl⟩ := List.mem_map.1 hm
        exact ht (List.mem_map.2 ⟨c.1, hsub c hc, rfl⟩)
      have := h2.env t
      rw [hideA_getD, if_neg ht'] at this
      unfold hide at this
      rwa [if_neg ht'] at this) hxd hcn (fun F hF => by
      obtain ⟨q1, q2, q3, q4⟩ := h4 _ (hcb F hF)
      obtain ⟨o, _, _, _, hm, _⟩ := hx F hF
      refine ⟨q1, q2, q4, hm.pl, hm.vr, fun b B e hb he => ?_⟩
      obtain ⟨e0, cs, fz, g1, _⟩ := hS.blk b B hb
      have g2 := h1 b e0 g1
      rw [he] at g2; obtain rfl := Option.some.inj g2
      have := hS.cbLt hb g1
      have q3' : wS.heap.size ≤ cb F := q3
      omega)
    have hst2 : St P.globals.size base w0 s2 (putsF xs aw.next ρ') N ds (allocs xs aw) a w := by
      have hd := h2.dfr
      have hm := h2.mrk
      have hn := h2.nd
      rw [hideA_defers] at hd hm hn
      exact ⟨k2, k3, hsz, hd.mono k1, hm, hn⟩
    have hunl : ∀ i ∈ p, l.getD i true = false → i ∈ q := fun i hi hx' => by
      rcases hpq i hi with h | ⟨F, hF, h⟩
      · exact h
      · have hl' := hlist F hF
        have := closed_anc (ops := ops) (l := l) hcl ops.size (j := F.x) (i := i) (fun o ho e he hb => hcl F.x (by unfold listedOf; exact hl') (hxs F hF) o ho e he hb) h
        rw [getD_true_false (by rw [hl]; exact (hst i (hp i hi)).1), this] at hx'; cases hx'
    have hmiss : ∀ j, j < ops.size → j ∉ p → (∀ F ∈ xs, j ≠ F.x) → l.getD j true = false := fun j hj h1 h2 => by
      cases hq : l.getD j true with
      | false => rfl
      | true =>
        rcases hdone j hj hq with h | ⟨F, hF, h⟩
        · exact absurd h h1
        · exact absurd h (h2 F hF)
    have hpns : ∀ e ∈ post, e.1 ∉ p := fun e he hm => (hpo e he).2.1 e.1 (hp _ hm) |>.2 rfl
    have ht : TailAny P N ops Kn Kp n l (putsF xs aw.next ρ') ds (allocs xs aw) := by
      refine lin_tail hN hs hst hord0 hlk0 n l _ ρ2 ds _ (q ++ nh) post hl hf ?_ ?_ hcl hqn ?_ hch hpend hnd hff2 hlin2
      · intro j hj hx'
        rcases hcov j hj with h | ⟨F, hF, rfl⟩ | h | h
        · exact .inl (List.mem_append.2 (.inl (hunl j h hx')))
        · rw [hlist F hF] at hx'; cases hx'
        · exact .inl (List.mem_append.2 (.inr h))
        · exact .inr h
      · intro e he
        obtain ⟨b1, b2, b3, b4, b5⟩ := hpo e he
        have he0 := hmiss e.1 b1 (hpns e he) b3
        refine ⟨b1, he0, b2, b4, fun j hj => ⟨b5 j hj, ?_⟩⟩
        cases hq : l.getD j true with
        | false => rfl
        | true =>
          have key : ∀ (tl : Tl) (pp : List Nat), pendOk ops pp tl = true → e ∈ tl → anc ops ops.size j e.1 = true := by
            intro tl
            induction tl with
            | nil => intro _ _ h; cases h
            | cons z r ih =>
              intro pp hpd he
              obtain ⟨z1, z2, z3⟩ := z
              simp only [pendOk, Bool.and_eq_true, List.all_eq_true] at hpd
              rcases List.mem_cons.1 he with rfl | he
              · exact hpd.1.2 j hj
              · exact ih _ hpd.2 he
          have hjs := (hst j (b5 j hj)).1
          have := closed_anc (ops := ops) (l := l) hcl ops.size (j := j) (i := e.1) (fun o ho e' he' hb => hcl j (by unfold listedOf; exact hq) hjs o ho e' he' hb) (key post _ hpend he)
          rw [getD_true_false (by rw [hl]; exact b1), this] at he0; cases he0
      · intro t ht
        have hnhl : ∀ j ∈ nh, l.getD j true = false := fun j hj =>
          hmiss j (hst j (hqn j (List.mem_append.2 (.inr hj)))).1 (hnp j hj) fun F hF => hxh F hF j (hqn j (List.mem_append.2 (.inr hj)))
        have e2 : ρ2 t = putsF xs aw.next ρ t := ho2 t fun j hj => ht j (List.mem_append.2 (.inr hj)) (hnhl j hj)
        rw [e2]
        refine putsF_congr xs aw.next ρ' ρ (.inr (hag t fun j hj hx' => ht j (List.mem_append.2 (.inl (hunl j hj hx'))) hx'))
    exact wpAny_mono' (fun e a w => QQ.mono (Inj.le_trans h1 k1)) (fun a w => QQ.not_outgrown a w) n _ _ _ (tail_sound n l _ ds _ ht base w0 s2 a w hst2)
  induction n with
  | zero =>
    intro l A ρ' a w hl hf hdone hmade hsub hcl hag hsg
    have hall : ∀ j, j < ops.size → l.getD j true = true := by
      intro j hj
      unfold left at hf
      rw [List.countP_eq_zero] at hf
      have := hf l[j] (by simp)
      simp only [Array.getD, hl, hj, dif_pos]
      simpa using this
    exact met 0 l A ρ' a w hl hf hdone (fun F hF => (hmade F hF).1 (hall _ (hxs F hF))) (fun F hF => hall _ (hxs F hF)) hsub hcl hag hsg
  | succ n ih =>
    intro l A ρ' a w hl hf hdone hmade hsub hcl hag hsg
    rcases Classical.em (∀ F ∈ xs, F ∈ A.map (·.1)) with hall | hnot
    · exact met (n + 1) l A ρ' a w hl hf hdone hall (fun F hF => (hmade F hF).2 (hall F hF)) hsub hcl hag hsg
    obtain ⟨F0, hF0, hF0A⟩ : ∃ F ∈ xs, F ∉ A.map (·.1) := by
      apply Classical.byContradiction
      intro h
      apply hnot
      intro F hF
      apply Classical.byContradiction
      intro h2
      exact h ⟨F, hF, h2⟩
    have hF0l : l.getD F0.x true = false := by
      cases hq : l.getD F0.x true with
      | false => rfl
      | true => exact absurd ((hmade F0 hF0).1 hq) hF0A
    have hpre : ∀ j o, ops[j]? = some o → ∀ e ∈ o.after, Region.binds .any e = true → e.on < j := by
      intro j o ho e he hb
      have hlt : j < ops.size := (Array.getElem?_eq_some_iff.1 ho).1
      have := hord j hlt
      rw [ho] at this
      simp only [Option.map_some, Option.getD_some, Array.all_eq_true] at this
      obtain ⟨q, hq, rfl⟩ := Array.getElem_of_mem he
      have := this q hq
      simp only [hb, Bool.not_true, Bool.false_or, decide_eq_true_eq] at this
      exact this
    have hanc : ∀ i, i ∈ Region.ready .any ops l → ∀ j, anc ops ops.size i j = true → l.getD j false = true := by
      intro i hi j hj
      obtain ⟨_, _, g3⟩ := ready_spec hi
      exact closed_anc hcl ops.size g3 hj
    have hnext : ∀ i, i ∈ Region.ready .any ops l → (∀ j, listedOf (l.setIfInBounds i true) j = true → j < ops.size → ∀ o, ops[j]? = some o → ∀ e ∈ o.after, Region.binds .any e = true → (l.setIfInBounds i true).getD e.on false = true) := by
      intro i hi j hj hjs o ho e he hb
      obtain ⟨g1, g2, g3⟩ := ready_spec hi
      have up : ∀ x, l.getD x false = true → (l.setIfInBounds i true).getD x false = true := by
        intro x hx
        rw [getD_set]; split
        · rfl
        · exact hx
      unfold listedOf at hj
      rw [getD_set] at hj
      split at hj
      · rename_i hij
        obtain ⟨rfl, _⟩ := hij
        exact up _ (g3 o ho e he hb)
      · exact up _ (hcl j hj hjs o ho e he hb)
    have hlook : ∀ i o, i ∈ Region.ready .any ops l → ops[i]? = some o → Agr ops o ρ ρ' := by
      intro i o hi ho t ht
      obtain ⟨g1, _, _⟩ := ready_spec hi
      refine hag t fun j hj hx hdj => ?_
      have := hlk i g1
      rw [ho] at this
      simp only [Option.map_some, Option.getD_some, List.all_eq_true, Bool.or_eq_true, bne_iff_ne, ne_eq] at this
      rcases this t ht j (hp j hj) with h | h
      · exact h hdj
      · have := hanc i hi j h
        rw [getD_true_false (by rw [hl]; exact (hst j (hp j hj)).1), this] at hx; cases hx
    have hsz : ∀ i, (l.setIfInBounds i true).size = ops.size := fun i => by simp [hl]
    have hleft : ∀ i, i ∈ Region.ready .any ops l → left (l.setIfInBounds i true) = n := by
      intro i hi
      obtain ⟨_, g2, _⟩ := ready_spec hi
      have := left_set l i g2
      omega
    have hkeep : ∀ i j, (l.setIfInBounds i true).getD j true = false → i ≠ j ∧ l.getD j true = false := by
      intro i j hx
      rw [getD_set] at hx
      split at hx
      · cases hx
      · rename_i hne
        refine ⟨fun h => ?_, hx⟩
        subst h
        have : ¬ i < l.size := fun h => hne ⟨rfl, h⟩
        simp [Array.getD, this] at hx
    have hput : ∀ i j, i ≠ j → (l.setIfInBounds i true).getD j true = l.getD j true := by
      intro i j hne
      rw [getD_set, if_neg (fun h => hne h.1)]
    refine ⟨fun hr => ?_, fun i hi => ?_⟩
    · exfalso
      have hfirst : ∃ j, j < ops.size ∧ l.getD j true = false ∧ ∀ i, i < j → l.getD i true = true := by
        have hex : ∃ j, j < ops.size ∧ l.getD j true = false := ⟨F0.x, hxs F0 hF0, hF0l⟩
        obtain ⟨j, hj, hx⟩ := hex
        induction j using Nat.strongRecOn with
        | _ j ihj =>
          by_cases h : ∀ i, i < j → l.getD i true = true
          · exact ⟨j, hj, hx, h⟩
          · have : ∃ i, i < j ∧ l.getD i true = false := by
              apply Classical.byContradiction
              intro h'
              apply h
              intro i hi
              cases hy : l.getD i true with
              | true => rfl
              | false => exact absurd ⟨i, hi, hy⟩ h'
            obtain ⟨i, hi, hy⟩ := this
            exact ihj i hi (by omega) hy
      obtain ⟨j, hj, hx, hmin⟩ := hfirst
      have hready : j ∈ Region.ready .any ops l := ready_of hj hx (fun o ho e he hb => by
        have hlt := hpre j o ho e he hb
        have := hmin _ hlt
        rw [getD_true_false (by omega)] at this
        exact this)
      rw [hr] at hready; simp at hready
    · obtain ⟨g1, g2, g3⟩ := ready_spec hi
      have ho : ops[i]? = some ops[i] := Array.getElem?_eq_getElem g1
      have hag' := hlook i _ hi ho
      have away : anc ops ops.size i F0.x = true → False := fun h => by
        have := hanc i hi _ h
        rw [getD_true_false (by rw [hl]; exact hxs F0 hF0), this] at hF0l; cases hF0l
      rcases hcov i g1 with him | ⟨F, hF, hiF⟩ | hin | ⟨e, he, hie⟩
      · -- one that reads
        obtain ⟨_, d', hdi, hdu⟩ := hst i (hp i him)
        have hod : (ops[i]).dst = some d' := by simpa [dstOf, ho] using hdi
        have hho := hff i him _ ho d' hod
        refine hsg.read hS hN ho (fun c hc => hea i him _ ho c.1 (hsub c hc)) (fun ρ2 hρ2 => hho ρ2 fun t' ht' => (hρ2 t' ht').trans (hag' t' ht')) fun a' w' hsg' => ?_
        refine ih _ A _ a' w' (hsz i) (hleft i hi) ?_ ?_ hsub (hnext i hi) ?_ hsg'
        · intro j hj hx
          by_cases hji : i = j
          · subst hji; exact .inl him
          · rw [hput i j hji] at hx; exact hdone j hj hx
        · intro F hF
          rw [hput i F.x (hxh F hF i (hp i him))]
          exact hmade F hF
        · intro t' ht
          rw [hod, put_at]
          by_cases htd : t' = d'
          · rw [if_pos htd, htd]
          · rw [if_neg htd]
            refine hag t' fun j hj hx => ?_
            by_cases hji : i = j
            · subst hji
              rw [hdi]
              exact fun h => htd (by injection h with h; exact h.symm)
            · exact ht j hj (by rw [hput i j hji]; exact hx)
      · -- one is made
        subst hiF
        obtain ⟨o, ho', hg, hd, hm, hsel, hlo⟩ := hx F hF
        have hFA : F ∉ A.map (·.1) := fun hm => by rw [(hmade F hF).2 hm] at g2; cases g2
        have hoo : o = ops[F.x] := by rw [ho] at ho'; exact (Option.some.inj ho').symm
        have hag'' : Agr ops o ρ ρ' := by rw [hoo]; exact hag'
        have hm' : MakesR P ops o ρ' F := ⟨hm.pl, fun ρ2 h2 => hm.run ρ2 fun t ht => (h2 t ht).trans (hag'' t ht), hm.vr⟩
        have hdN : F.d < N := dstsOk_get hN (j := F.x) (by simp [ho', hd])
        refine hsg.make ho' hg hd hdN hm' (fun hmem => ?_) hsel (fun d hdm => ?_) fun a' w' cb hsg' => ?_
        · obtain ⟨c, hc, hcd⟩ := List.mem_map.1 hmem
          have : c.1 = F := by
            have hu := hxd
            have key : ∀ (xs : List Flo), (xs.map (·.d)).Nodup → c.1 ∈ xs → F ∈ xs → c.1 = F := by
              intro xs
              induction xs with
              | nil => intro _ h _; cases h
              | cons z r ih =>
                intro hn b1 b2
                simp only [List.map_cons, List.nodup_cons] at hn
                rcases List.mem_cons.1 b1 with b1 | b1
                · rcases List.mem_cons.1 b2 with b2 | b2
                  · rw [b1, b2]
                  · exact absurd (List.mem_map.2 ⟨F, b2, by rw [← b1]; exact hcd.symm⟩) hn.1
                · rcases List.mem_cons.1 b2 with b2 | b2
                  · exact absurd (List.mem_map.2 ⟨c.1, b1, by rw [← b2]; exact hcd⟩) hn.1
                  · exact ih hn.2 b1 b2
            exact key xs hu (hsub c hc) hF
          exact hFA (List.mem_map.2 ⟨c, hc, this⟩)
        · obtain ⟨c, hc, rfl⟩ := List.mem_map.1 hdm
          exact hlo c.1 (hsub c hc)
        · refine ih _ ((F, cb) :: A) ρ' a' w' (hsz F.x) (hleft F.x hi) ?_ ?_ ?_ (hnext F.x hi) ?_ hsg'
          · intro j hj hx
            by_cases hji : F.x = j
            · exact .inr ⟨F, hF, hji.symm⟩
            · rw [hput F.x j hji] at hx; exact hdone j hj hx
          · intro H hH
            by_cases hHF : H = F
            · subst hHF
              refine ⟨fun _ => by simp, fun _ => ?_⟩
              rw [getD_set, if_pos ⟨rfl, by rw [hl]; exact g1⟩]
            · have hne : F.x ≠ H.x := fun h => hHF (by
                have key : ∀ (xs : List Flo), (xs.map (·.x)).Nodup → H ∈ xs → F ∈ xs → H = F := by
                  intro xs
                  induction xs with
                  | nil => intro _ h _; cases h
                  | cons z r ih =>
                    intro hn b1 b2
                    simp only [List.map_cons, List.nodup_cons] at hn
                    rcases List.mem_cons.1 b1 with b1 | b1
                    · rcases List.mem_cons.1 b2 with b2 | b2
                      · rw [b1, b2]
                      · exact absurd (List.mem_map.2 ⟨F, b2, by rw [← b1]; exact h⟩) hn.1
                    · rcases List.mem_cons.1 b2 with b2 | b2
                      · exact absurd (List.mem_map.2 ⟨H, b1, by rw [← b2]; exact h.symm⟩) hn.1
                      · exact ih hn.2 b1 b2
                exact key xs hxx hH hF)
              rw [hput F.x H.x hne, hmade H hH]
              simp only [List.map_cons, List.mem_cons]
              exact ⟨fun h => .inr h, fun h => h.resolve_left hHF⟩
          · intro c hc
            rcases List.mem_cons.1 hc with rfl | hc
            · exact hF
            · exact hsub c hc
          · intro t' ht
            refine hag t' fun j hj hx => ht j hj ?_
            rw [hput F.x j (fun h => hxh F hF j (hp j hj) h.symm)]
            exact hx
      · exact (away (hnh i hin F0 hF0)).elim
      · exfalso
        obtain ⟨e0, r0, hpr⟩ : ∃ e0 r0, post = e0 :: r0 := by
          cases post with
          | nil => cases he
          | cons z r => exact ⟨z, r, rfl⟩
        have hstop : ∀ z ∈ post, l.getD z.1 true = false := fun z hz => by
          obtain ⟨b1, b2, b3, _⟩ := hpo z hz
          cases hq : l.getD z.1 true with
          | false => rfl
          | true =>
            rcases hdone z.1 b1 hq with h | ⟨F, hF, h⟩
            · exact absurd rfl (b2 z.1 (hp _ h)).2
            · exact absurd h (b3 F hF)
        rcases hie with rfl | hie
        · have chain : ∀ (m : Tl) (b : Nat), chainOk ops (b :: m.map (·.1)) = true → (∀ y ∈ b :: m.map (·.1), y < ops.size ∧ l.getD y true = false) → ∀ y ∈ m, e.1 ≠ y.1 := by
            intro m
            induction m with
            | nil => intro _ _ _ y hy; simp at hy
            | cons c m ihm =>
              intro b hc hall y hy
              simp only [List.map_cons, chainOk, Bool.and_eq_true] at hc
              rcases List.mem_cons.1 hy with rfl | hy
              · intro h
                have h1 := hanc e.1 hi b (by rw [h]; exact hc.1)
                obtain ⟨h2, h3⟩ := hall b (by simp)
                rw [getD_true_false (by omega), h1] at h3; cases h3
              · exact ihm c.1 hc.2 (fun z hz => hall z (by simp at hz ⊢; exact .inr hz)) y hy
          rw [hpr] at he hch
          rcases List.mem_cons.1 he with rfl | he
          · exact away (hfirst e r0 hpr F0 hF0)
          · refine chain r0 e0.1 (by simpa using hch) (fun y hy => ?_) e he rfl
            rcases List.mem_cons.1 hy with rfl | hy
            · have : e0 ∈ post := by rw [hpr]; exact List.mem_cons_self ..
              exact ⟨(hpo e0 this).1, hstop e0 this⟩
            · obtain ⟨z, hz, rfl⟩ := List.mem_map.1 hy
              have : z ∈ post := by rw [hpr]; exact List.mem_cons_of_mem _ hz
              exact ⟨(hpo z this).1, hstop z this⟩
        · have key : ∀ (tl : Tl) (pp : List Nat), pendOk ops pp tl = true → e ∈ tl → anc ops ops.size i e.1 = true := by
            intro tl
            induction tl with
            | nil => intro _ _ h; cases h
            | cons z r ih =>
              intro pp hpd he
              obtain ⟨z1, z2, z3⟩ := z
              simp only [pendOk, Bool.and_eq_true, List.all_eq_true] at hpd
              rcases List.mem_cons.1 he with rfl | he
              · exact hpd.1.2 i hie
              · exact ih _ hpd.2 he
          have h1 := hanc i hi _ (key post _ hpend he)
          have h2 := hstop e he
          rw [getD_true_false (by rw [hl]; exact (hpo e he).1), h1] at h2; cases h2
end
def linGOk (ops : Array Oper) (gx : List (Nat × Tmp)) (p q nh : List Nat) (post : Tl) : Bool :=
  ((p ++ (q ++ nh) ++ post.flatMap fun e => e.2.1 ++ e.2.2).all fun i => decide (i < ops.size) && (dstOf ops i).isSome && ((p ++ (q ++ nh) ++ post.flatMap fun e => e.2.1 ++ e.2.2).all fun j => i == j || dstOf ops i != dstOf ops j) &&
    (post.all fun e => dstOf ops i != dstOf ops e.1 && i != e.1) && (gx.all fun g => i != g.1)) &&
  (post.all fun e => decide (e.1 < ops.size) && gx.all fun g => e.1 != g.1) &&
  ((List.range ops.size).all fun j => p.contains j || (gx.any fun g => j == g.1) || nh.contains j || post.any fun e => j == e.1 || e.2.2.contains j) &&
  ((List.range ops.size).all fun j => ((ops[j]?).map fun (o : Oper) => o.after.all fun e => !Region.binds .any e || decide (e.on < j)).getD true) &&
  ((List.range ops.size).all fun j => ((ops[j]?).map fun (o : Oper) => (looks ops o).all fun t => (p ++ (q ++ nh) ++ post.flatMap fun e => e.2.1 ++ e.2.2).all fun i => dstOf ops i != some t || anc ops ops.size j i).getD true) &&
  chainOk ops (post.map (·.1)) && (match post with | [] => true | e :: _ => gx.all fun g => anc ops ops.size e.1 g.1) && (nh.all fun i => gx.all fun g => anc ops ops.size i g.1) &&
  (p.all fun i => q.contains i || gx.any fun g => anc ops ops.size g.1 i) && pendOk ops (q ++ nh) post && decide (post.map (·.1)).Nodup && (nh.all fun i => !p.contains i) &&
  (p.all fun i => ((ops[i]?).map fun (o : Oper) => notSel o.op && gx.all fun g => !(looks ops o).contains g.2 && o.dst != some g.2).getD true) &&
  (gx.all fun g => ((ops[g.1]?).map fun (o : Oper) => notSel o.op && o.dst == some g.2 && o.guard.isNone && gx.all fun h => !(looks ops o).contains h.2).getD false) &&
  decide (gx.map (·.2)).Nodup && decide (gx.map (·.1)).Nodup
section
variable {P : Program} {N : Nat} {ops : Array Oper} {k : List Item} {ρ : Env} {ds : List Deferred} {aw : AW} {xs : List Flo} {p q nh : List Nat} {post : Tl}
theorem ago_drawG {id : Nat} {R : ADone → Env → List Deferred → AW → Prop} {ρ1 : Env} (hm : P.follows .mixedOrders = true) (hN : dstsOk N ops = true) (hok : linGOk ops (xs.map fun F => (F.x, F.d)) p q nh post = true)
    (hmk : ∀ F ∈ xs, ∀ o, ops[F.x]? = some o → MakesR P ops o ρ1 F) (hoff : OffL ops p ρ ρ1) (hop : FFl P ops p ρ1 aw)
    (hk : LinG P ops xs q nh post (fun ρ' ds' aw' => AGo P N k ρ' ds' aw' R) (fun ch ρ' ds' aw' => R (.panic ch) ρ' ds' aw') ρ1 ds aw) :
    AGo P N (.code (.region id ops true) :: k) ρ ds aw R := by
  simp only [linGOk, Bool.and_eq_true] at hok
  obtain ⟨⟨⟨⟨⟨⟨⟨⟨⟨⟨⟨⟨⟨⟨⟨h1, h2⟩, h3⟩, h4⟩, h5⟩, h6⟩, h7⟩, h8⟩, h9⟩, h10⟩, h11⟩, h12⟩, h13⟩, h14⟩, h15⟩, h16⟩ := hok
  refine ago_of_wp fun base w0 s a w hst => wp_region_any hm ?_
  simp only [List.all_eq_true, Bool.and_eq_true, bne_iff_ne, ne_eq, Bool.or_eq_true, beq_iff_eq, decide_eq_true_eq, List.mem_range, List.any_eq_true, List.all_map, List.any_map, Function.comp, List.map_map] at h1 h2 h3 h8 h9 h11 h12 h13 h14 h15 h16
  have hmask : ∀ j, (Array.replicate ops.size false).getD j true = if j < ops.size then false else true := by
    intro j
    simp only [Array.getD_eq_getD_getElem?]
    by_cases hj : j < ops.size
    · simp [hj]
    · simp [hj]
  have h0 : left (Array.replicate ops.size false) = ops.size := by
    unfold left
    rw [Array.toList_replicate, List.countP_replicate]
    simp
  have hst' : St P.globals.size base w0 s ρ N ds aw a w.drew := ⟨hst.rel.drew, hst.env, hst.size, hst.dfr, hst.mrk, hst.nd⟩
  have hin : ∀ i, i ∈ p ∨ i ∈ q ++ nh ∨ (∃ e ∈ post, i ∈ e.2.1 ∨ i ∈ e.2.2) → i ∈ p ++ (q ++ nh) ++ post.flatMap fun e => e.2.1 ++ e.2.2 := by
    intro i h
    rcases h with h | h | ⟨e, he, h⟩
    · exact List.mem_append.2 (.inl (List.mem_append.2 (.inl h)))
    · exact List.mem_append.2 (.inl (List.mem_append.2 (.inr h)))
    · exact List.mem_append.2 (.inr (List.mem_flatMap.2 ⟨e, he, List.mem_append.2 h⟩))
  have hgx : ∀ F ∈ xs, ∃ o, ops[F.x]? = some o ∧ notSel o.op = true ∧ o.dst = some F.d ∧ o.guard = none ∧ ∀ H ∈ xs, H.d ∉ looks ops o := by
    intro F hF
    have := h14 F hF
    cases ho : ops[F.x]? with
    | none => rw [ho] at this; simp at this
    | some o =>
      rw [ho] at this
      simp only [Option.map_some, Option.getD_some, Bool.and_eq_true, beq_iff_eq, List.all_eq_true, Bool.not_eq_true', Option.isNone_iff_eq_none, List.all_map, Function.comp] at this
      obtain ⟨⟨⟨g1, g2⟩, g3⟩, g4⟩ := this
      exact ⟨o, rfl, g1, g2, g3, fun H hH hm => by have := g4 H hH; simp [hm] at this⟩
  have sel : ∀ {o : Oper}, notSel o.op = true → ∀ cs b, o.op ≠ .select cs b := fun h cs b he => by rw [he] at h; cases h
  refine lin_grp (hs := p ++ (q ++ nh) ++ post.flatMap fun e => e.2.1 ++ e.2.2) (xs := xs) (p := p) (q := q) (nh := nh) (post := post) (ρ := ρ1) hN ?_ h4 h5 hst'.rel ?_ h15 h16 ?_ ?_ (fun i hi => hin i (.inl hi)) (fun i hi => hin i (.inr (.inl hi))) ?_ h6 ?_ (fun i hi F hF => h8 i hi F hF) ?_ h10 h11 ?_ ?_ hop hk
    ops.size _ [] ρ a w.drew (by simp) h0 ?_ ?_ (fun c hc => by cases hc) ?_ ?_ ⟨⟨s, Inj.le_refl s, ?_⟩, Nat.le_refl _, (fun p hp => by cases hp), List.nodup_nil⟩
  · intro i hi
    obtain ⟨⟨⟨⟨b1, b2⟩, b3⟩, b4⟩, b5⟩ := h1 i hi
    obtain ⟨d, hd⟩ := Option.isSome_iff_exists.1 b2
    exact ⟨b1, d, hd, fun j hj hjd => ((b3 j hj).resolve_right (fun h => h (hd.trans hjd.symm))).symm⟩
  · intro F hF
    obtain ⟨o, g1, g2, g3, g4, g5⟩ := hgx F hF
    exact ⟨o, g1, g4, g3, hmk F hF o g1, sel g2, g5⟩
  · intro F hF i hi
    exact (h1 i hi).2 F hF
  · intro e he
    obtain ⟨b1, b2⟩ := h2 e he
    refine ⟨b1, fun j hj => (h1 j hj).1.2 e he, fun F hF => b2 F hF, fun j hj => hin j (.inr (.inr ⟨e, he, .inl hj⟩)), fun j hj => hin j (.inr (.inr ⟨e, he, .inr hj⟩))⟩
  · intro j hj
    rcases h3 j hj with ((h | ⟨F, hF, h⟩) | h) | ⟨e, he, h⟩
    · exact .inl (by simpa using h)
    · exact .inr (.inl ⟨F, hF, h⟩)
    · exact .inr (.inr (.inl (by simpa using h)))
    · refine .inr (.inr (.inr ⟨e, he, ?_⟩))
      rcases h with h | h
      · exact .inl h
      · exact .inr (by simpa using h)
  · intro e r hpr F hF
    subst hpr
    simp only [List.all_eq_true, List.all_map, Function.comp] at h7
    exact h7 F hF
  · intro i hi
    rcases h9 i hi with h | ⟨F, hF, h⟩
    · exact .inl (by simpa using h)
    · exact .inr ⟨F, hF, h⟩
  · intro i hi hm
    have := h12 i hi
    simp [hm] at this
  · intro i hi o ho F hF
    have := h13 i hi
    rw [ho] at this
    simp only [Option.map_some, Option.getD_some, Bool.and_eq_true, List.all_eq_true, Bool.not_eq_true', bne_iff_ne, ne_eq, List.all_map, Function.comp] at this
    obtain ⟨g1, g2⟩ := this
    obtain ⟨g2, g3⟩ := g2 F hF
    exact ⟨fun h => by simp [h] at g2, g3, sel g1⟩
  · intro j hj hx
    rw [hmask, if_pos hj] at hx; cases hx
  · intro F hF
    obtain ⟨o, g1, _⟩ := hgx F hF
    rw [hmask, if_pos (Array.getElem?_eq_some_iff.1 g1).1]
    exact ⟨fun h => (by cases h), fun h => (by cases h)⟩
  · intro j hj hjs
    unfold listedOf at hj
    rw [hmask, if_pos hjs] at hj; cases hj
  · intro t ht
    refine (hoff t fun j hj => ht j hj ?_).symm
    have := (h1 j (hin j (.inl hj))).1.1.1.1
    rw [hmask, if_pos this]
  · exact hst'
end
end Go.Am
set_option linter.unusedSimpArgs false
set_option linter.unusedVariables false
set_option linter.unusedSectionVars false
namespace Go.Ri
open Go Go.Am Go.RowKit
variable [SymE] [FT] [FTok]
def isFl (ops : Array Oper) (i : Nat) : Option Tmp := match ops[i]? with
  | some o => (match o.dst, o.guard, o.op with
    | some d, none, .alloc _ => some d
    | some d, none, .makeSlice _ _ _ => some d
    | _, _, _ => none)
  | none => none
noncomputable def cutG (ops : Array Oper) : Tl → Option (List (Nat × Tmp) × List Nat × List Nat × Tl) := List.rec (motive := fun _ => Option (List (Nat × Tmp) × List Nat × List Nat × Tl)) none
  (fun e r ih => match isFl ops e.1 with
    | none => none
    | some d => (match ih with
      | some (g, q, nh, post) => (match e.2.2 with
        | [] => some ((e.1, d) :: g, q, nh, post)
        | _ => none)
      | none => some ([(e.1, d)], e.2.1, e.2.2, r)))
noncomputable def floOf (P : Program) (ρ : Env) (o : Oper) (i : Nat) (d : Tmp) : Option Flo := match o.op with
  | .alloc t => (match (P.info? t).bind (·.zero) with
    | some z => bif plains (cellsL z) then some ⟨i, d, cellsL z, t, 0, fun b => .pointer (some ⟨b, 0, none⟩)⟩ else none
    | none => none)
  | .makeSlice t x y => (match okv P.globals.size ρ x with
    | some (.int _ (.ofNat m)) => (match okv P.globals.size ρ y with
      | some (.int _ (.ofNat cp)) => (match P.underlying t with
        | some (.slice el) => (match (P.info? el).map (·.size) with
          | none => none
          | some size => (match (P.info? el).map (·.bytes) with
            | none => none
            | some bytes => (match (P.info? el).bind (·.zero) with
              | none => none
              | some z => bif plains (cellsL z) && (Nat.ble m cp && (Nat.blt 0 size && (Nat.beq (cellsL z).length size && (Nat.ble (bytes * cp) 140737488355328 && Nat.blt cp 1152921504606846976)))) then
                  some ⟨i, d, zeros (cellsL z) cp, el, size, fun b => .slice (some ⟨b, 0, none⟩) m cp⟩ else none)))
        | _ => none)
      | _ => none)
    | _ => none)
  | _ => none
theorem floOf_xd {P : Program} {ρ : Env} {o : Oper} {i : Nat} {d : Tmp} {F : Flo} (h : floOf P ρ o i d = some F) : F.x = i ∧ F.d = d := by
  unfold floOf at h
  split at h
  · split at h
    · rw [cond_some] at h
      obtain ⟨_, h⟩ := h
      simp only [Option.some.injEq] at h; subst h; exact ⟨rfl, rfl⟩
    · cases h
  · (repeat' split at h) <;> first | cases h | (rw [cond_some] at h; obtain ⟨_, h⟩ := h; simp only [Option.some.injEq] at h; subst h; exact ⟨rfl, rfl⟩)
  · cases h
theorem agr_opd {P : Program} {ops : Array Oper} {o : Oper} {ρ ρ' : Env} (hag : Agr ops o ρ ρ') {x : Operand} (hx : x ∈ o.op.operands.toList) : ρ'.eval x = ρ.eval x := by
  cases x with
  | tmp t =>
    refine hag t ?_
    unfold looks
    refine List.mem_append.2 (.inl (List.mem_filterMap.2 ⟨_, hx, rfl⟩))
  | const v => rfl
  | global g => rfl
  | func f => rfl
theorem floOf_spec {P : Program} {ops : Array Oper} {ρ : Env} {o : Oper} {i : Nat} {d : Tmp} {F : Flo} (h : floOf P ρ o i d = some F) : MakesR P ops o ρ F := by
  unfold floOf at h
  split at h
  · rename_i t hop
    split at h
    · rename_i z hz
      rw [cond_some] at h
      obtain ⟨hp, h⟩ := h
      simp only [Option.some.injEq] at h; subst h
      have hcl : cellsL z = z.cells.toList := cellsL_eq z
      refine ⟨hp, fun ρ' _ s f w _ => ?_, fun s b e he h0 => ?_⟩
      · simp only [execOp, hop, Instr.alloc, Sem.run_bind, run_zeroValue' hz, Result.andThen_ok, newVar, run_newRow, Sem.run_pure, hcl]
      · have := VR.ptr (s := s) (o := 0) he
        rw [h0] at this
        simpa using this
    · cases h
  · rename_i t x y hop
    split at h
    · rename_i k m hx
      split at h
      · rename_i k' cp hy
        split at h
        · rename_i el hu
          split at h
          · cases h
          rename_i size hs
          split at h
          · cases h
          rename_i bytes hby
          split at h
          · cases h
          rename_i z hz0
          rw [cond_some] at h
          obtain ⟨hp, h⟩ := h
          simp only [Bool.and_eq_true, Nat.ble_eq, Nat.blt_eq, Nat.beq_eq] at hp
          obtain ⟨p1, hm, hs0, p4, p5, p6⟩ := hp
          simp only [Option.some.injEq] at h; subst h
          obtain ⟨x1, x2⟩ := okv_spec hx
          obtain ⟨y1, y2⟩ := okv_spec hy
          have hzs : z.cells.size = size := by rw [← p4, cellsL_eq]; simp
          have hb : bytes * cp ≤ 2 ^ 47 := Nat.le_trans p5 (by decide)
          have hcp : cp < 2 ^ 60 := Nat.lt_of_lt_of_le p6 (by decide)
          refine ⟨zeros_plain p1 cp, fun ρ' hag s f w hf => ?_, fun s b e he h0 => ?_⟩
          · have e1 := hf x x1
            rw [agr_opd (P := P) hag (by rw [hop]; simp [Op.operands]), x2] at e1
            have e2 := hf y y1
            rw [agr_opd (P := P) hag (by rw [hop]; simp [Op.operands]), y2] at e2
            obtain ⟨inf, hinf⟩ : ∃ inf, P.info? el = some inf := by
              cases h : P.info? el with
              | none => simp [h] at hs
              | some q => exact ⟨q, rfl⟩
            have hbb : inf.bytes = bytes := by simpa [hinf] using hby
            have w1 : IntKind.i64.wrap (m : Int) = m := IntWalk.i64_in _ (by omega)
            have w2 : IntKind.i64.wrap (cp : Int) = cp := IntWalk.i64_in _ (by omega)
            have hb' : ((inf.bytes : Int) * (cp : Int)) ≤ 2 ^ 47 := by rw [hbb]; exact_mod_cast hb
            have hzz : (Array.range (cp * size)).map (z.cells[· % size]!) = (zeros (cellsL z) cp).toArray := by
              apply Array.toList_inj.1
              rw [cellsL_eq, ← hzs, ← madeCells_zeros (by omega) cp]
            have hfin : (Instr.makeSlice t (.int k (m : Int)) (.int k' (cp : Int))).run P w = .ok (.slice (some ⟨w.heap.size, 0, none⟩) m cp) (w.alloc (.cells ((Array.range (cp * size)).map (z.cells[· % size]!)) el)) := by
              simp only [Instr.makeSlice, Sem.run_bind, run_underlying hu, Result.andThen_ok, asInt, run_asIntOf, Sem.run_pure, run_typeInfo w hinf, w1, w2]
              rw [if_neg (by simp; omega)]
              simp only [Sem.run_bind, run_askRoom, Result.andThen_ok, run_sizeOf' hs, Int.toNat_natCast]
              by_cases hn : cp * size = 0
              · have : cp = 0 := by
                  rcases Nat.mul_eq_zero.1 hn with h | h
                  · exact h
                  · omega
                subst this
                simp only [hn, if_true, Sem.run_pure, Result.andThen_ok, Sem.run_bind, run_newRow]
                congr 3
                apply Array.toList_inj.1
                simp
              · simp only [hn, if_false, Sem.run_bind, run_zeroValue' hz0, Result.andThen_ok, Sem.run_pure, run_newRow, hzs]
            have f1 : f x = .int k (m : Int) := VR.int_inv e1
            have f2 : f y = .int k' (cp : Int) := VR.int_inv e2
            simp only [execOp, hop, f1, f2, Sem.run_bind, hfin, Result.andThen_ok, Sem.run_pure, hzz]
          · refine .slice hm (fun _ => rfl) fun _ => ⟨e, he, by cases e; simp_all, fun h => by unfold UNK at h; omega⟩
        · cases h
      · cases h
    · cases h
  · cases h
noncomputable def flos (P : Program) (ρ0 : T Value) (ops : Array Oper) : List (Nat × Tmp) → T Value → Mem → Option (List Flo × T Value × Mem) := List.rec (motive := fun _ => T Value → Mem → Option (List Flo × T Value × Mem)) (fun ρ M => some ([], ρ, M))
  (fun g _ ih ρ M => match ops[g.1]? with
    | none => none
    | some o => (match floOf P (slot ρ0) o g.1 g.2 with
      | none => none
      | some F => (match ih (putS ρ (some F.d) (F.ref M.next)) (M.alloc F.cells F.elem F.esz) with
        | none => none
        | some (xs, ρ', M') => some (F :: xs, ρ', M'))))
theorem flos_spec {P : Program} {ρ0 : T Value} {ops : Array Oper} : ∀ {gx : List (Nat × Tmp)} {ρ ρ' : T Value} {M M' : Mem} {xs : List Flo}, flos P ρ0 ops gx ρ M = some (xs, ρ', M') →
    xs.map (fun F => (F.x, F.d)) = gx ∧ (∀ F ∈ xs, ∀ o, ops[F.x]? = some o → MakesR P ops o (slot ρ0) F) ∧ slot ρ' = putsF xs M.abs.next (slot ρ) ∧ M'.abs = allocs xs M.abs
  | [], ρ, ρ', M, M', xs, h => by
    have h : some ([], ρ, M) = some (xs, ρ', M') := h
    simp only [Option.some.injEq, Prod.mk.injEq] at h
    obtain ⟨rfl, rfl, rfl⟩ := h
    exact ⟨rfl, (fun F hF => by cases hF), rfl, rfl⟩
  | (i, d) :: gx, ρ, ρ', M, M', xs, h => by
    have h : (match ops[i]? with
      | none => none
      | some o => (match floOf P (slot ρ0) o i d with
        | none => none
        | some F => (match flos P ρ0 ops gx (putS ρ (some F.d) (F.ref M.next)) (M.alloc F.cells F.elem F.esz) with
          | none => none
          | some (xs, ρ', M') => some (F :: xs, ρ', M')))) = some (xs, ρ', M') := h
    split at h
    · cases h
    rename_i o ho
    split at h
    · cases h
    rename_i F hF
    split at h
    · cases h
    rename_i xs' ρ2 M2 hr
    simp only [Option.some.injEq, Prod.mk.injEq] at h
    obtain ⟨rfl, rfl, rfl⟩ := h
    obtain ⟨k1, k2, k3, k4⟩ := flos_spec hr
    obtain ⟨x1, x2⟩ := floOf_xd hF
    refine ⟨by rw [List.map_cons, k1, x1, x2], ?_, ?_, ?_⟩
    · intro H hH o' ho'
      rcases List.mem_cons.1 hH with rfl | hH
      · rw [x1, ho] at ho'
        obtain rfl := Option.some.inj ho'
        exact floOf_spec hF
      · exact k2 H hH o' ho'
    · rw [k3, slot_put, M.alloc_spec]; rfl
    · rw [k4, M.alloc_spec]; rfl
noncomputable def drawGR (P : Program) (X : Exts) (C : Caller) (ops : Array Oper) (hs : List Nat) (gx : List (Nat × Tmp)) (q nh : List Nat) (post : Tl) (ρ : T Value) (ds : List Deferred) (M : Mem) : OpsR := match heads P ops M hs ρ with
  | none => .bad
  | some ρ => bif again P ops (slot ρ) M hs then (match flos P ρ ops gx ρ M with
    | none => .bad
    | some (_, ρ, M) => (match heads P ops M nh ρ with
      | none => .bad
      | some ρ => bif again P ops (slot ρ) M (q ++ nh) then tailR P X C ops post ρ ds M else .bad)) else .bad
section
variable {P : Program} {X : Exts} {C : Caller} {N : Nat} {ops : Array Oper}
theorem drawG_spec (hX : ExtOk P X) (hC : CS P C) (hm : P.follows .mixedOrders = true) (hN : dstsOk N ops = true) {hs : List Nat} {gx : List (Nat × Tmp)} {q nh : List Nat} {post : Tl} (hok : linGOk ops gx hs q nh post = true) {id : Nat} {k : List Item} {R : ADone → Env → List Deferred → AW → Prop} {ρ : T Value} {ds : List Deferred} {M : Mem}
    (h : (drawGR P X C ops hs gx q nh post ρ ds M).holdsX ops (fun ρ' ds' aw' => AGo P N k ρ' ds' aw' R) (fun ch ρ' ds' aw' => R (.panic ch) ρ' ds' aw')) : AGo P N (.code (.region id ops true) :: k) (slot ρ) ds M.abs R := by
  unfold drawGR at h
  split at h
  · exact h.elim
  rename_i ρ1 hh
  cases hb : again P ops (slot ρ1) M hs with
  | false => rw [hb] at h; exact h.elim
  | true =>
    rw [hb] at h
    simp only [cond_true] at h
    split at h
    · exact h.elim
    rename_i xs ρ2 M2 hf
    obtain ⟨k1, k2, k3, k4⟩ := flos_spec hf
    split at h
    · exact h.elim
    rename_i ρ3 hh3
    cases hb3 : again P ops (slot ρ3) M2 (q ++ nh) with
    | false => rw [hb3] at h; exact h.elim
    | true =>
      rw [hb3] at h
      simp only [cond_true] at h
      have e1 := heads_spec hh3
      have e2 := again_spec hb3
      have e3 := tail_spec hX hC h
      rw [k3] at e1
      rw [k4] at e2 e3
      exact ago_drawG hm hN (by rw [k1]; exact hok) k2 (heads_spec hh) (again_spec hb) ⟨slot ρ3, e1, e2, e3⟩
end
end Go.Ri
set_option linter.unusedSimpArgs false
set_option linter.unusedVariables false
set_option linter.unusedSectionVars false
namespace Go.Ri
open Go Go.Am Go.RowKit
variable [SymE]
variable [FT] [FTok]
end Go.Ri
set_option linter.unusedSimpArgs false
set_option linter.unusedVariables false
set_option linter.unusedSectionVars false
namespace Go.Ri
open Go Go.Am Go.RowKit
variable [SymE]
variable [FT] [FTok]
theorem _root_.Go.Am.Rel.later {G : Nat} {base : Nat → Prop} {w0 w w' : World} {s : Inj} {aw : AW} (h : Rel G base w0 s aw w) (hb : Keep (· < w.heap.size) w w') : Rel G base w0 s aw w' where
  fresh := h.fresh
  mfresh := h.mfresh
  blk b B hB := by
    obtain ⟨e, cs, fz, h1, h2, h3, h4⟩ := h.blk b B hB
    refine ⟨e, cs, fz, h1, h2, ?_, h4⟩
    rw [hb.block _ (Array.getElem?_eq_some_iff.1 h3).1]
    exact h3
  sep := h.sep
  hbase := fun k hk => Nat.lt_of_lt_of_le (h.hbase k hk) hb.size
  glob := h.glob
  below := h.below.trans (hb.mono h.hbase)
theorem plain_ER {s t : Inj} {v : Value} {e : Ending} (hp : plain v = true) (h : ER s (.returned v) e) : ER t (.returned v) e := by
  cases h with
  | returned h =>
    have := VR.eq_of_plain h hp
    subst this
    exact .returned (VR.ofPlain hp)
end Go.Ri
namespace Go.Ri
open Go Go.Am Go.RowKit
variable [SymE]
end Go.Ri
set_option linter.unusedSimpArgs false
set_option linter.unusedVariables false
set_option linter.unusedSectionVars false
namespace Go.Ri
open Go Go.Am Go.RowKit
variable [SymE]
variable [FT] [FTok]
def rnV (ren : Nat → Nat) : Value → Value
  | .pointer (some ⟨b, o, q⟩) => .pointer (some ⟨ren b, o, q⟩)
  | .slice (some ⟨b, o, q⟩) l c => .slice (some ⟨ren b, o, q⟩) l c
  | v => v
def okV (n : Nat) : Value → Bool
  | .pointer (some ⟨b, _, none⟩) => Nat.blt b n
  | .slice (some ⟨b, _, none⟩) _ _ => Nat.blt b n
  | .pointer (some ⟨_, _, some _⟩) => false
  | .slice (some ⟨_, _, some _⟩) _ _ => false
  | v => plain v
theorem vr_ren {s : Inj} {ren : Nat → Nat} {n : Nat} {v v' : Value} (h : okV n v = true) (hv : VR s (rnV ren v) v') : VR (fun b => if b < n then s (ren b) else none) v v' := by
  have pl : ∀ {v : Value}, plain v = true → VR s v v' → VR (fun b => if b < n then s (ren b) else none) v v' := fun hp hv => by
    have := VR.eq_of_plain hv hp
    subst this
    exact VR.ofPlain hp
  unfold okV at h
  split at h
  · rename_i b o
    rw [Nat.blt_eq] at h
    simp only [rnV] at hv
    cases hv with
    | ptr he => exact .ptr (by simp only [if_pos h]; exact he)
  · rename_i b o l c
    rw [Nat.blt_eq] at h
    simp only [rnV] at hv
    cases hv with
    | slice hl hc hh => exact .slice hl hc fun hp => by simp only [if_pos h]; exact hh hp
  · cases h
  · cases h
  · rename_i h1 h2 h3 h4
    have e : rnV ren v = v := by
      unfold rnV
      split
      · rename_i b o q
        cases q with
        | none => exact absurd rfl (h1 b o)
        | some q => exact absurd rfl (h3 b o q)
      · rename_i b o q l c
        cases q with
        | none => exact absurd rfl (h2 b o l c)
        | some q => exact absurd rfl (h4 b o q l c)
      · rfl
    rw [e] at hv
    exact pl h hv
structure UnderR (G : Nat) (ren : Nat → Nat) (aw0 aw : AW) : Prop where
  le : G ≤ aw0.next
  gl : ∀ g, g < G → ren g = g
  no : ∀ b, aw0.next ≤ b → aw0.m b = none
  blk : ∀ b B, aw0.m b = some B → B.rw = false ∧ ∃ B', aw.m (ren b) = some B' ∧ B'.elem = B.elem ∧ B'.esz = B.esz ∧ (B.esz = 0 → B'.cells.length = B.cells.length) ∧
    ∀ (i : Nat) (v : Value), B.cells[i]? = some v → okV aw0.next v = true ∧ B'.cells[i]? = some (rnV ren v)
theorem vrs_ren {s : Inj} {ren : Nat → Nat} {n : Nat} : ∀ {l l' : List Value}, l.all (okV n) = true → VRs s (l.map (rnV ren)) l' → VRs (fun b => if b < n then s (ren b) else none) l l'
  | [], _, _, h => by cases h; exact .nil
  | x :: l, _, ha, h => by
    simp only [List.all_cons, Bool.and_eq_true] at ha
    simp only [List.map_cons] at h
    cases h with
    | cons h1 t => exact .cons (vr_ren ha.1 h1) (vrs_ren ha.2 t)
theorem acalls_ren {P : Program} {f : FuncId} {args : List Value} {aw0 aw aw1 : AW} {v : Value} {ren : Nat → Nat} (hu : UnderR P.globals.size ren aw0 aw) (ha : args.all (okV aw0.next) = true) (hv : plain v = true)
    (h : ACalls P f args aw0 fun e aw' => e = .returned v ∧ aw' = aw1) : ACalls P f (args.map (rnV ren)) aw fun e aw' => e = .returned v ∧ aw' = aw := by
  intro base w0 s args' w hr hargs
  have r0 : Rel P.globals.size (· < w.heap.size) w (fun b => if b < aw0.next then s (ren b) else none) aw0 w := by
    refine ⟨?_, ?_, ?_, ?_, (fun k hk => hk), ?_, Keep.refl _ _⟩
    · intro b hb
      simp only [if_neg (show ¬ b < aw0.next by omega)]
    · exact hu.no
    · intro b B hB
      have hlt : b < aw0.next := by
        rcases Nat.lt_or_ge b aw0.next with h | h
        · exact h
        · rw [hu.no b h] at hB; cases hB
      obtain ⟨h3, B', k1, k2, k3, k4, k5⟩ := hu.blk b B hB
      obtain ⟨e, cs, fz, g1, g2, g3, g4, g5, g6, g7⟩ := hr.blk (ren b) B' k1
      have hlen : B.cells.length ≤ B'.cells.length := by
        rcases Nat.lt_or_ge B'.cells.length B.cells.length with h | h
        · have hx := (k5 B'.cells.length _ (List.getElem?_eq_getElem h)).2
          rw [List.getElem?_eq_none (Nat.le_refl _)] at hx; cases hx
        · exact h
      refine ⟨e, cs, fz, by simp only [if_pos hlt]; exact g1, ⟨g2.1.trans k3, (fun h => absurd (h3.symm.trans h) (by decide)), fun h0 => ?_⟩, k2 ▸ g3, g4, by omega, fun i u hi => ?_, (fun h => absurd (h3.symm.trans h) (by decide))⟩
      · obtain ⟨q1, q2⟩ := g2.2.2 (k3.trans h0)
        exact ⟨q1, by rw [q2, k4 h0]⟩
      · obtain ⟨j1, j2⟩ := k5 i u hi
        obtain ⟨u', l1, l2⟩ := g6 i _ j2
        exact ⟨u', l1, vr_ren j1 l2⟩
    · intro b1 b2 B1 B2 e1 e2 _ hB1 _ _ _ hrw
      rw [(hu.blk b1 B1 hB1).1] at hrw; cases hrw
    · intro g hg
      obtain ⟨e, h1, h2⟩ := hr.glob g hg
      exact ⟨e, by simp only [if_pos (Nat.lt_of_lt_of_le hg hu.le), hu.gl g hg]; exact h1, h2⟩
  refine (h _ _ _ args' w r0 (vrs_ren ha hargs)).mono ?_
  rintro e w' ⟨s', ae, aw', _, hrel, her, hq, _⟩
  subst hq
  exact ⟨s, .returned v, aw, Inj.le_refl s, hr.later hrel.below, plain_ER hv her, rfl, rfl⟩
noncomputable def memR (n : Nat) (l : List (Nat × List Value × TypeId × Nat)) : Mem := ⟨List.rec (motive := fun _ => T (Option RB)) .leaf (fun p _ ih => T.dn ih fun t => T.set (some ⟨T.ofL p.2.1 0 .leaf, p.2.1.length, p.2.2.1, p.2.2.2, false⟩) t p.1) l, n⟩
theorem memR_abs {n : Nat} : ∀ (l : List (Nat × List Value × TypeId × Nat)) (b : Nat) (B : Blk), (memR n l).abs.m b = some B → ∃ p ∈ l, p.1 = b ∧ B = ⟨p.2.1, p.2.2.1, p.2.2.2, false, 0⟩
  | [], b, B, h => by
    have : (memR n []).abs.m b = none := by simp [Mem.abs, Mem.at, memR, T.get_leaf]
    rw [this] at h; cases h
  | p :: l, b, B, h => by
    have hbl : (memR n (p :: l)).bl = T.set (some ⟨T.ofL p.2.1 0 .leaf, p.2.1.length, p.2.2.1, p.2.2.2, false⟩) (memR n l).bl p.1 := by
      rfl
    simp only [Mem.abs, Mem.at, hbl, T.get_set] at h
    by_cases hb : b = p.1
    · rw [if_pos hb] at h
      simp only [Option.map_some, Option.some.injEq] at h
      refine ⟨p, by simp, hb.symm, ?_⟩
      rw [← h]
      simp only [RB.abs, Blk.mk.injEq, and_true]
      apply List.ext_getElem?
      intro k
      simp only [List.getElem?_map]
      rcases Nat.lt_or_ge k p.2.1.length with hk | hk
      · rw [List.getElem?_range hk]
        simp only [Option.map_some, T.get_ofL]
        rw [if_pos (by omega), Nat.sub_zero, List.getElem?_eq_getElem hk]; rfl
      · rw [List.getElem?_eq_none (by simp; omega), List.getElem?_eq_none hk]; rfl
    · rw [if_neg hb] at h
      obtain ⟨q, hq, h1, h2⟩ := memR_abs l b B h
      exact ⟨q, by simp [hq], h1, h2⟩
end Go.Ri
set_option linter.unusedSimpArgs false
set_option linter.unusedVariables false
set_option linter.unusedSectionVars false
namespace Go.Am
open Go Go.RowKit
variable [SymE]
structure Hp (aw0 : AW) (own : List Nat) (ro : List (Nat × Blk)) (aw : AW) (l : List (Nat × Blk)) : Prop where
  nd : (l.map (·.1)).Nodup
  at_ : ∀ p ∈ l, aw.m p.1 = some p.2 ∧ p.1 < aw.next
  mine : ∀ p ∈ l, p.1 ∈ own ∨ aw0.next ≤ p.1
  le : aw0.next ≤ aw.next
  keep : ∀ b, b < aw0.next → b ∉ own → aw.m b = aw0.m b
  ro_ : ∀ p ∈ ro, aw0.m p.1 = some p.2 ∧ p.1 < aw0.next ∧ p.1 ∉ own
  rok : ∀ b B, aw.m b = some B → B.rw = false → ∃ B0, aw0.m b = some B0 ∧ B0.rw = false
inductive At : List (Nat × Blk) → Nat → Blk → Prop
  | here {l : List (Nat × Blk)} {b : Nat} {B : Blk} : At ((b, B) :: l) b B
  | there {x : Nat × Blk} {l : List (Nat × Blk)} {b : Nat} {B : Blk} (h : At l b B) : At (x :: l) b B
theorem At.mem {l : List (Nat × Blk)} {b : Nat} {B : Blk} (h : At l b B) : (b, B) ∈ l := by
  induction h with
  | here => simp
  | there _ ih => exact List.mem_cons_of_mem _ ih
inductive Up : List (Nat × Blk) → Nat → Blk → Blk → List (Nat × Blk) → Prop
  | here {l : List (Nat × Blk)} {b : Nat} {B B' : Blk} : Up ((b, B) :: l) b B B' ((b, B') :: l)
  | there {x : Nat × Blk} {l l' : List (Nat × Blk)} {b : Nat} {B B' : Blk} (h : Up l b B B' l') : Up (x :: l) b B B' (x :: l')
inductive Out : List (Nat × Blk) → Nat → Blk → List (Nat × Blk) → Prop
  | here {l : List (Nat × Blk)} {b : Nat} {B : Blk} : Out ((b, B) :: l) b B l
  | there {x : Nat × Blk} {l l' : List (Nat × Blk)} {b : Nat} {B : Blk} (h : Out l b B l') : Out (x :: l) b B (x :: l')
theorem Up.at_ {l l' : List (Nat × Blk)} {b : Nat} {B B' : Blk} (h : Up l b B B' l') : At l b B := by
  induction h with
  | here => exact .here
  | there _ ih => exact .there ih
theorem Up.ids {l l' : List (Nat × Blk)} {b : Nat} {B B' : Blk} (h : Up l b B B' l') : l'.map (·.1) = l.map (·.1) := by
  induction h with
  | here => rfl
  | there _ ih => simp [ih]
theorem Up.get {l l' : List (Nat × Blk)} {b : Nat} {B B' : Blk} (h : Up l b B B' l') (hn : (l.map (·.1)).Nodup) : ∀ p ∈ l', p = (b, B') ∨ (p ∈ l ∧ p.1 ≠ b) := by
  induction h with
  | here =>
    rename_i l b B B'
    intro p hp
    simp only [List.map_cons, List.nodup_cons] at hn
    rcases List.mem_cons.1 hp with rfl | hp
    · exact .inl rfl
    · exact .inr ⟨List.mem_cons_of_mem _ hp, fun h => hn.1 (h ▸ List.mem_map.2 ⟨p, hp, rfl⟩)⟩
  | there h ih =>
    rename_i x l l' b B B'
    intro p hp
    simp only [List.map_cons, List.nodup_cons] at hn
    rcases List.mem_cons.1 hp with rfl | hp
    · exact .inr ⟨by simp, fun he => hn.1 (he ▸ List.mem_map.2 ⟨_, h.at_.mem, rfl⟩)⟩
    · rcases ih hn.2 p hp with h | ⟨h1, h2⟩
      · exact .inl h
      · exact .inr ⟨List.mem_cons_of_mem _ h1, h2⟩
theorem Out.at_ {l l' : List (Nat × Blk)} {b : Nat} {B : Blk} (h : Out l b B l') : At l b B := by
  induction h with
  | here => exact .here
  | there _ ih => exact .there ih
theorem Out.get {l l' : List (Nat × Blk)} {b : Nat} {B : Blk} (h : Out l b B l') (hn : (l.map (·.1)).Nodup) : (l'.map (·.1)).Nodup ∧ ∀ p ∈ l', p ∈ l ∧ p.1 ≠ b := by
  induction h with
  | here =>
    rename_i l b B
    simp only [List.map_cons, List.nodup_cons] at hn
    exact ⟨hn.2, fun p hp => ⟨List.mem_cons_of_mem _ hp, fun h => hn.1 (h ▸ List.mem_map.2 ⟨p, hp, rfl⟩)⟩⟩
  | there h ih =>
    rename_i x l l' b B
    simp only [List.map_cons, List.nodup_cons] at hn ⊢
    obtain ⟨i1, i2⟩ := ih hn.2
    refine ⟨⟨fun hx => hn.1 ?_, i1⟩, fun p hp => ?_⟩
    · obtain ⟨p, hp, he⟩ := List.mem_map.1 hx
      exact List.mem_map.2 ⟨p, (i2 p hp).1, he⟩
    · rcases List.mem_cons.1 hp with rfl | hp
      · exact ⟨by simp, fun he => hn.1 (he ▸ List.mem_map.2 ⟨_, h.at_.mem, rfl⟩)⟩
      · exact ⟨List.mem_cons_of_mem _ (i2 p hp).1, (i2 p hp).2⟩
inductive Put : List Value → Nat → List Value → List Value → Prop
  | nil {r : List Value} : Put r 0 [] r
  | cons {c v : Value} {r r' vs : List Value} (h : Put r 0 vs r') : Put (c :: r) 0 (v :: vs) (v :: r')
  | skip {c : Value} {r r' vs : List Value} {i : Nat} (h : Put r i vs r') : Put (c :: r) (i + 1) vs (c :: r')
section
variable {aw0 aw : AW} {own : List Nat} {ro l l' : List (Nat × Blk)} {b i n off size : Nat} {B B' : Blk} {v p : Value} {k : IntKind} {cs cs' : List Value}
theorem Hp.m (M : Hp aw0 own ro aw l) (h : At l b B) : aw.m b = some B := (M.at_ _ h.mem).1
theorem Hp.r (M : Hp aw0 own ro aw l) (h : At ro b B) : aw.m b = some B := by
  obtain ⟨h1, h2, h3⟩ := M.ro_ _ h.mem
  rw [M.keep _ h2 h3]; exact h1
theorem Hp.init (hn : (l.map (·.1)).Nodup) (ha : ∀ p ∈ l, aw.m p.1 = some p.2 ∧ p.1 < aw.next) (hr : ∀ p ∈ ro, aw.m p.1 = some p.2 ∧ p.1 < aw.next ∧ p.1 ∉ l.map (·.1)) : Hp aw (l.map (·.1)) ro aw l :=
  ⟨hn, ha, fun p hp => .inl (List.mem_map.2 ⟨p, hp, rfl⟩), Nat.le_refl _, fun _ _ _ => rfl, hr, fun b B h1 h2 => ⟨B, h1, h2⟩⟩
theorem Hp.self (M : Hp aw0 own ro aw l) : Hp aw (l.map (·.1)) ro aw l := by
  refine Hp.init M.nd M.at_ fun p hp => ?_
  obtain ⟨h1, h2, h3⟩ := M.ro_ p hp
  refine ⟨by rw [M.keep _ h2 h3]; exact h1, Nat.lt_of_lt_of_le h2 M.le, fun h => ?_⟩
  obtain ⟨q, hq, he⟩ := List.mem_map.1 h
  rcases M.mine q hq with h | h
  · exact h3 (he ▸ h)
  · rw [he] at h; omega
theorem get_m (h : aw.m b = some B) (hc : B.cells[i]? = some v) : aw.get b i = some v := by simp [AW.get, h, hc]
theorem setN_m : ∀ (vs : List Value) (aw : AW) (b i c : Nat), (aw.setN b i vs).m c = if c = b then (aw.m b).map fun B => { B with cells := (List.range vs.length).foldl (fun cs j => cs.set (i + j) (vs.getD j undef)) B.cells } else aw.m c := by
  intro vs
  induction vs with
  | nil => intro aw b i c; simp [AW.setN]; intro h; subst h; cases aw.m c <;> rfl
  | cons v vs ih =>
    intro aw b i c
    rw [AW.setN, ih]
    simp only [AW.set]
    split
    · rename_i h
      simp only [if_true, Option.map_map]
      congr 1
      funext B
      simp only [Function.comp, List.length_cons]
      congr 1
      rw [List.range_succ_eq_map, List.foldl_cons, List.foldl_map]
      simp only [Nat.add_zero, List.getD_cons_zero]
      congr 1
      funext cs j
      simp only [List.getD_cons_succ]
      congr 1
      omega
    · rfl
theorem setN_next (vs : List Value) : ∀ (aw : AW) (b i : Nat), (aw.setN b i vs).next = aw.next := by
  induction vs with
  | nil => intros; rfl
  | cons v vs ih => intro aw b i; rw [AW.setN, ih]; rfl
theorem Put.fold {cs vs cs' : List Value} {i : Nat} (h : Put cs i vs cs') : (List.range vs.length).foldl (fun cs j => cs.set (i + j) (vs.getD j undef)) cs = cs' := by
  induction h with
  | nil => rfl
  | cons h ih =>
    rename_i c v r r' vs
    rw [List.length_cons, List.range_succ_eq_map, List.foldl_cons, List.foldl_map]
    simp only [Nat.zero_add, List.getD_cons_zero, List.set_cons_zero]
    have key : ∀ (l : List Nat) (x : List Value), l.foldl (fun cs j => cs.set (j + 1) ((v :: vs).getD (j + 1) undef)) (v :: x) = v :: l.foldl (fun cs j => cs.set j (vs.getD j undef)) x := by
      intro l
      induction l with
      | nil => intro x; rfl
      | cons a l ihl => intro x; simp only [List.foldl_cons, List.set_cons_succ, List.getD_cons_succ]; exact ihl _
    rw [key]
    have e : (fun (cs : List Value) (j : Nat) => cs.set j (vs.getD j undef)) = fun cs j => cs.set (0 + j) (vs.getD j undef) := by funext cs j; rw [Nat.zero_add]
    rw [e, ih]
  | skip h ih =>
    rename_i c r r' vs i
    have key : ∀ (l : List Nat) (x : List Value), l.foldl (fun cs j => cs.set (i + 1 + j) (vs.getD j undef)) (c :: x) = c :: l.foldl (fun cs j => cs.set (i + j) (vs.getD j undef)) x := by
      intro l
      induction l with
      | nil => intro x; rfl
      | cons a l ihl =>
        intro x
        simp only [List.foldl_cons]
        rw [show i + 1 + a = (i + a) + 1 by omega, List.set_cons_succ]
        exact ihl _
    rw [key, ih]
theorem Put.len {cs vs cs' : List Value} {i : Nat} (h : Put cs i vs cs') : i + vs.length ≤ cs.length := by
  induction h with
  | nil => simp
  | cons _ ih => simp at ih ⊢; omega
  | skip _ ih => simp at ih ⊢; omega
theorem Hp.set (M : Hp aw0 own ro aw l) (hp : Put B.cells i cs cs') (hu : Up l b B ⟨cs', B.elem, B.esz, B.rw, B.fz⟩ l') : Hp aw0 own ro (aw.setN b i cs) l' := by
  have hb := M.m hu.at_
  have hmine := M.mine _ hu.at_.mem
  refine ⟨hu.ids ▸ M.nd, fun p hp' => ?_, fun p hp' => ?_, by rw [setN_next]; exact M.le, fun c hc hne => ?_, M.ro_, fun c C h1 h2 => ?_⟩
  · rw [setN_m, setN_next]
    rcases hu.get M.nd p hp' with rfl | ⟨h1, h2⟩
    · simp only [if_true, hb, Option.map_some, hp.fold]
      exact ⟨trivial, (M.at_ _ hu.at_.mem).2⟩
    · rw [if_neg h2]; exact M.at_ p h1
  · rcases hu.get M.nd p hp' with rfl | ⟨h1, h2⟩
    · exact hmine
    · exact M.mine p h1
  · rw [setN_m, if_neg, M.keep c hc hne]
    rintro rfl
    rcases hmine with h | h
    · exact hne h
    · exact absurd hc (by simp at h; omega)
  · rw [setN_m] at h1
    split at h1
    · rename_i e
      subst e
      rw [hb] at h1
      simp only [Option.map_some, Option.some.injEq] at h1
      subst h1
      exact M.rok _ _ hb h2
    · exact M.rok _ _ h1 h2
theorem Hp.alloc (M : Hp aw0 own ro aw l) (elem esz : Nat) : Hp aw0 own ro (aw.alloc cs elem esz) ((aw.next, ⟨cs, elem, esz, true, 0⟩) :: l) := by
  refine ⟨?_, fun p hp => ?_, fun p hp => ?_, Nat.le_succ_of_le M.le, fun c hc hne => ?_, M.ro_, fun c C h1 h2 => ?_⟩
  · simp only [List.map_cons, List.nodup_cons]
    refine ⟨fun h => ?_, M.nd⟩
    obtain ⟨p, hp, he⟩ := List.mem_map.1 h
    exact absurd (M.at_ p hp).2 (by rw [he]; exact Nat.lt_irrefl _)
  · rcases List.mem_cons.1 hp with rfl | hp
    · simp [AW.alloc]
    · obtain ⟨h1, h2⟩ := M.at_ p hp
      simp only [AW.alloc]
      rw [if_neg (by omega)]
      exact ⟨h1, by omega⟩
  · rcases List.mem_cons.1 hp with rfl | hp
    · exact .inr M.le
    · exact M.mine p hp
  · simp only [AW.alloc]
    rw [if_neg (by have := M.le; omega)]
    exact M.keep c hc hne
  · simp only [AW.alloc] at h1
    split at h1
    · simp only [Option.some.injEq] at h1
      subst h1; cases h2
    · exact M.rok _ _ h1 h2
theorem Hp.kill (M : Hp aw0 own ro aw l) (hu : Out l b B l') : Hp aw0 own ro (aw.kill b) l' := by
  obtain ⟨h1, h2⟩ := hu.get M.nd
  refine ⟨h1, fun p hp => ?_, fun p hp => M.mine p (h2 p hp).1, M.le, fun c hc hne => ?_, M.ro_, fun c C g1 g2 => ?_⟩
  · simp only [AW.kill]
    rw [if_neg (h2 p hp).2]
    exact M.at_ p (h2 p hp).1
  · simp only [AW.kill]
    rw [if_neg, M.keep c hc hne]
    rintro rfl
    rcases M.mine _ hu.at_.mem with h | h
    · exact hne h
    · exact absurd hc (by simp at h; omega)
  · simp only [AW.kill] at g1
    split at g1
    · cases g1
    · exact M.rok _ _ g1 g2
theorem Hp.drop (M : Hp aw0 own ro aw l) (hu : Out l b B l') : Hp aw0 own ro aw l' := by
  obtain ⟨h1, h2⟩ := hu.get M.nd
  exact ⟨h1, fun p hp => M.at_ p (h2 p hp).1, fun p hp => M.mine p (h2 p hp).1, M.le, M.keep, M.ro_, M.rok⟩
theorem Hp.perm (M : Hp aw0 own ro aw l) (h : l.Perm l') : Hp aw0 own ro aw l' :=
  ⟨(h.map _).nodup_iff.1 M.nd, fun p hp => M.at_ p (h.mem_iff.2 hp), fun p hp => M.mine p (h.mem_iff.2 hp), M.le, M.keep, M.ro_, M.rok⟩
theorem Hp.call {aw' : AW} {l1 l2 l1' ro' : List (Nat × Blk)} (M : Hp aw0 own ro aw (l1 ++ l2)) (C : Hp aw (l1.map (·.1)) ro' aw' l1') : Hp aw0 own ro aw' (l1' ++ l2) := by
  have hnd := M.nd
  rw [List.map_append, List.nodup_append] at hnd
  refine ⟨?_, fun p hp => ?_, fun p hp => ?_, Nat.le_trans M.le C.le, fun c hc hne => ?_, M.ro_, fun b B h1 h2 => (by
    obtain ⟨B1, g1, g2⟩ := C.rok b B h1 h2
    exact M.rok b B1 g1 g2)⟩
  · rw [List.map_append, List.nodup_append]
    refine ⟨C.nd, hnd.2.1, fun x hx y hy => ?_⟩
    obtain ⟨p, hp, rfl⟩ := List.mem_map.1 hx
    obtain ⟨q, hq, rfl⟩ := List.mem_map.1 hy
    rcases C.mine p hp with h | h
    · exact hnd.2.2 _ h _ (List.mem_map.2 ⟨q, hq, rfl⟩)
    · have := (M.at_ q (List.mem_append.2 (.inr hq))).2
      omega
  · rcases List.mem_append.1 hp with hp | hp
    · exact C.at_ p hp
    · obtain ⟨h1, h2⟩ := M.at_ p (List.mem_append.2 (.inr hp))
      rw [C.keep _ h2 (fun h => hnd.2.2 _ h _ (List.mem_map.2 ⟨p, hp, rfl⟩) rfl)]
      exact ⟨h1, Nat.lt_of_lt_of_le h2 C.le⟩
  · rcases List.mem_append.1 hp with hp | hp
    · rcases C.mine p hp with h | h
      · obtain ⟨q, hq, he⟩ := List.mem_map.1 h
        have := M.mine q (List.mem_append.2 (.inl hq))
        rw [he] at this; exact this
      · exact .inr (Nat.le_trans M.le h)
    · exact M.mine p (List.mem_append.2 (.inr hp))
  · rw [C.keep c (Nat.lt_of_lt_of_le hc M.le), M.keep c hc hne]
    intro h
    obtain ⟨q, hq, he⟩ := List.mem_map.1 h
    rcases M.mine q (List.mem_append.2 (.inl hq)) with h | h
    · exact hne (he ▸ h)
    · rw [he] at h; omega
inductive In (aw : AW) (b : Nat) (B : Blk) : Prop
  | mk (h : aw.m b = some B)
theorem Hp.im (M : Hp aw0 own ro aw l) (h : At l b B) : In aw b B := ⟨M.m h⟩
theorem Hp.ir (M : Hp aw0 own ro aw l) (h : At ro b B) : In aw b B := ⟨M.r h⟩
inductive Cell : List Value → Nat → Value → Prop
  | here {v : Value} {r : List Value} : Cell (v :: r) 0 v
  | there {c v : Value} {r : List Value} {i : Nat} (h : Cell r i v) : Cell (c :: r) (i + 1) v
theorem Cell.get {cs : List Value} {i : Nat} {v : Value} (h : Cell cs i v) : cs[i]? = some v := by
  induction h with
  | here => rfl
  | there _ ih => simpa using ih
theorem In.get (h : In aw b B) (hc : Cell B.cells i v) : aw.get b i = some v := get_m h.1 hc.get
theorem nck_x {K : Prop} (h : K) : nck (.pointer (some ⟨b, i, none⟩)) K := ⟨⟨b, i, rfl⟩, h⟩
theorem fldA_x {K : Value → Prop} (h : K (.pointer (some ⟨b, i + off, none⟩))) : fldA (.pointer (some ⟨b, i, none⟩)) off K := ⟨b, i, _, rfl, rfl, h⟩
theorem ptr_x {K : Nat → Nat → Prop} (h : K b i) : ptr (.pointer (some ⟨b, i, none⟩)) K := ⟨b, i, rfl, h⟩
theorem ldI_x {K : Int → Prop} {n : Int} (hi : In aw b B) (hc : Cell B.cells i (.int k n)) (h : K n) : ldI k aw (.pointer (some ⟨b, i, none⟩)) K := ⟨b, i, n, rfl, hi.get hc, h⟩
theorem ldB_x {K : Bool → Prop} {n : Bool} (hi : In aw b B) (hc : Cell B.cells i (.bool n)) (h : K n) : ldB aw (.pointer (some ⟨b, i, none⟩)) K := ⟨b, i, n, rfl, hi.get hc, h⟩
theorem ldV_x {K : Value → Prop} {n : Value} (hi : In aw b B) (hc : Cell B.cells i n) (h : K n) : ldV aw (.pointer (some ⟨b, i, none⟩)) K := ⟨b, i, n, rfl, hi.get hc, h⟩
theorem gI_x {K : Int → Prop} {n : Int} (hi : In aw b B) (hc : Cell B.cells i (.int k n)) (h : K n) : gI k aw b i K := ⟨n, hi.get hc, h⟩
theorem gV_x {K : Value → Prop} {n : Value} (hi : In aw b B) (hc : Cell B.cells i n) (h : K n) : gV aw b i K := ⟨n, hi.get hc, h⟩
theorem again_x {K : Prop} (hi : In aw b B) (hc : Cell B.cells i v) (h : K) : again1 aw (.pointer (some ⟨b, i, none⟩)) v ∧ K :=
  ⟨fun b' i' he => by injection he with he; injection he with he; injection he with h1 h2; subst h1; subst h2; exact hi.get hc, h⟩
theorem get_x {K : Prop} (hi : In aw b B) (hc : Cell B.cells i v) (h : K) : aw.get b i = some v ∧ K := ⟨hi.get hc, h⟩
theorem st_x {K : AW → Prop} (M : Hp aw0 own ro aw l) (hu : Up l b B ⟨cs', B.elem, B.esz, true, 0⟩ l') (hp : Put B.cells i cs cs') (hrw : B.rw = true) (hfz : B.fz = 0) (ho : cs.all one = true)
    (h : ∀ aw', Hp aw0 own ro aw' l' → K aw') : st aw (.pointer (some ⟨b, i, none⟩)) cs K := by
  obtain ⟨cells, elem, esz, rw, fz⟩ := B
  simp only at hrw hfz hp hu
  subst hrw; subst hfz
  exact ⟨b, i, _, rfl, ⟨_, M.m hu.at_, rfl, hp.len, Nat.zero_le _⟩, ho, rfl, h _ (M.set hp hu)⟩
theorem alc_x {K : Value → AW → Prop} {t e : Nat} (M : Hp aw0 own ro aw l) (h : ∀ b aw', Hp aw0 own ro aw' ((b, ⟨cs, t, e, true, 0⟩) :: l) → K (.pointer (some ⟨b, 0, none⟩)) aw') : alc aw cs t e K := ⟨_, _, rfl, rfl, h _ _ (M.alloc t e)⟩
theorem alcS_x {K : Value → AW → Prop} {t e n : Nat} (M : Hp aw0 own ro aw l) (h : ∀ b aw', Hp aw0 own ro aw' ((b, ⟨cs, t, e, true, 0⟩) :: l) → K (.slice (some ⟨b, 0, none⟩) n n) aw') : alcS aw cs t e n K := ⟨_, _, rfl, rfl, h _ _ (M.alloc t e)⟩
theorem slen_x {K : Int → Prop} {q : Option Addr} {n c : Nat} (h : K (n : Int)) : slen (.slice q n c) K := ⟨q, n, c, _, rfl, rfl, h⟩
theorem ixS_x {K : Value → Prop} {n c : Nat} {j : Int} (h0 : 0 ≤ j) (h1 : j < n) (h : K (.pointer (some ⟨b, i + j.toNat * size, none⟩))) : ixS (.slice (some ⟨b, i, none⟩) n c) j size K := ⟨b, i, n, c, _, rfl, h0, h1, rfl, h⟩
theorem cnd_1x {q : Bool} {X Y : Prop} (hb : q = true) (h : X) : cnd q X Y := by subst hb; exact ⟨fun _ => h, (fun h' => Bool.noConfusion h')⟩
theorem cnd_0x {q : Bool} {X Y : Prop} (hb : q = false) (h : Y) : cnd q X Y := by subst hb; exact ⟨(fun h' => Bool.noConfusion h'), fun _ => h⟩
theorem nilB_x {K : Bool → Prop} {d : TypeDesc} {u c : Value} {q : Bool} (h1 : nilFits d u c = true) (h2 : (isNil u).getD false = q) (h : K q) : nilB d u c K := ⟨q, h1, h2.symm, h⟩
end
end Go.Am
set_option linter.unusedSimpArgs false
set_option linter.unusedVariables false
set_option linter.unusedSectionVars false
namespace Go.Am
open Go Go.RowKit
variable [SymE]
section
universe u
variable {α : Type u} {aw0 aw : AW} {own : List Nat} {ro l l' : List (Nat × Blk)} {b i n c k m off size el bytes : Nat} {B B' : Blk} {v p xv : Value} {cs os : List Value}
theorem getN_m (h : aw.m b = some B) : ∀ {n i : Nat}, i + n ≤ B.cells.length → aw.getN b i n = some ((B.cells.drop i).take n)
  | 0, i, _ => by simp [AW.getN]
  | n + 1, i, hl => by
    have hi : i < B.cells.length := by omega
    have e : aw.get b i = some B.cells[i] := by simp [AW.get, h, hi]
    simp only [AW.getN, e, getN_m h (n := n) (i := i + 1) (by omega), Option.map_some]
    rw [List.drop_eq_getElem_cons hi, List.take_succ_cons]
inductive Seg : List Value → Nat → Nat → List Value → Prop
  | nil {r : List Value} : Seg r 0 0 []
  | take {c : Value} {r s : List Value} {n : Nat} (h : Seg r 0 n s) : Seg (c :: r) 0 (n + 1) (c :: s)
  | drop {c : Value} {r s : List Value} {i n : Nat} (h : Seg r i n s) : Seg (c :: r) (i + 1) n s
theorem Seg.spec {r s : List Value} {i n : Nat} (h : Seg r i n s) : i + n ≤ r.length ∧ (r.drop i).take n = s := by
  induction h with
  | nil => simp
  | take _ ih => simp at ih ⊢; exact ⟨by omega, ih.2⟩
  | drop _ ih => simp at ih ⊢; exact ⟨by omega, ih.2⟩
theorem src_x (hi : In aw b B) (hl : i + n * size ≤ B.cells.length) (hc : (B.cells.drop i).take (n * size) = cs) : Src aw size (.slice (some ⟨b, i, none⟩) n c) n cs := by
  subst hc; exact .slice (getN_m hi.1 hl)
theorem src_s (hi : In aw b B) (hm : n * size = m) (h : Seg B.cells i m cs) : Src aw size (.slice (some ⟨b, i, none⟩) n c) n cs := by
  obtain ⟨h1, h2⟩ := h.spec
  subst hm
  exact src_x hi h1 h2
theorem app_nil {K : Value → AW → Prop} (M : Hp aw0 own ro aw l) (hs : Src aw size xv n cs) (h0 : 0 < n) (hb : (2 * n + 768) * bytes ≤ 2 ^ 48)
    (h : ∀ b aw', Hp aw0 own ro aw' ((b, ⟨cs, el, size, true, 0⟩) :: l) → K (.slice (some ⟨b, 0, none⟩) n UNK) aw') : app aw el size bytes (.slice none 0 0) xv K := by
  have := App.grows (el := el) (bytes := bytes) (q := none) (l := 0) (c := 0) (aw := aw) (xv := xv) (.nil) hs (by unfold UNK; omega) (by omega) (by simpa using hb)
  rw [List.nil_append, Nat.zero_add] at this
  exact ⟨_, _, this, h _ _ (M.alloc el size)⟩
theorem app_none {K : Value → AW → Prop} {q : Option Addr} (hs : Src aw size xv 0 cs) (h : K (.slice q n c) aw) : app aw el size bytes (.slice q n c) xv K := ⟨_, _, .none hs, h⟩
theorem app_mv {K : Value → AW → Prop} (M : Hp aw0 own ro aw l) (ho : Out l b ⟨os, el, size, true, 0⟩ l') (hn : n * size ≤ os.length) (hs : Src aw size xv k cs) (h1 : cs.all one = true) (hb : (2 * (n + k) + 768) * bytes ≤ 2 ^ 48)
    (h : ∀ b aw', Hp aw0 own ro aw' ((b, ⟨os.take (n * size) ++ cs, el, size, true, 0⟩) :: l') → K (.slice (some ⟨b, 0, none⟩) (n + k) UNK) aw') : app aw el size bytes (.slice (some ⟨b, 0, none⟩) n UNK) xv K := by
  have hB := M.m ho.at_
  have hg : aw.getN b 0 (n * size) = some (os.take (n * size)) := by
    rw [getN_m hB (by simpa using hn)]; simp
  exact ⟨_, _, .moves hg hs (Nat.le_refl _) hB rfl rfl rfl rfl h1 hb, h _ _ ((M.kill ho).alloc el size)⟩
inductive SlP (el size : Nat) : Value → Nat → List Value → List (Nat × Blk) → Prop
  | nil : SlP el size (.slice none 0 0) 0 [] []
  | some {b n : Nat} {os : List Value} (h : n * size ≤ os.length) : SlP el size (.slice (some ⟨b, 0, none⟩) n UNK) n os [(b, ⟨os, el, size, true, 0⟩)]
theorem SlP.len {L : List (Nat × Blk)} (h : SlP el size v n os L) : n * size ≤ os.length := by
  cases h with
  | nil => simp
  | some h => exact h
theorem SlP.val {L : List (Nat × Blk)} (h : SlP el size v n os L) : ∃ q c, v = .slice q n c := by
  cases h with
  | nil => exact ⟨_, _, rfl⟩
  | some h => exact ⟨_, _, rfl⟩
theorem app_p {L : List (Nat × Blk)} {K : Value → AW → Prop} (hp : SlP el size v n os L) (M : Hp aw0 own ro aw (L ++ l)) (hs : Src aw size xv k cs) (h0 : 0 < k) (h1 : cs.all one = true) (hb : (2 * (n + k) + 768) * bytes ≤ 2 ^ 48)
    (h : ∀ b aw', Hp aw0 own ro aw' ((b, ⟨os.take (n * size) ++ cs, el, size, true, 0⟩) :: l) → K (.slice (some ⟨b, 0, none⟩) (n + k) UNK) aw') : app aw el size bytes v xv K := by
  cases hp with
  | nil =>
    refine app_nil M hs h0 (by rw [Nat.zero_add] at hb; exact hb) fun b aw' M => ?_
    have := h b aw' (by simpa using M)
    rwa [Nat.zero_add] at this
  | some hl => exact app_mv M .here hl hs h1 hb h
end
end Go.Am
set_option linter.unusedSimpArgs false
set_option linter.unusedVariables false
namespace Go.Oc
def be : Nat → List UInt8 → Nat
  | a, [] => a
  | a, b :: l => be (a * 256 + b.toNat) l
def zag (n : Nat) : Int := if n % 2 = 1 then -((n / 2 : Nat) : Int) - 1 else ((n / 2 : Nat) : Int)
def rdU : List UInt8 → Option (Nat × List UInt8)
  | [] => none
  | k :: r => if 8 < k.toNat ∨ r.length < k.toNat ∨ (0 < k.toNat ∧ r.head? = some 0) then none else some (be 0 (r.take k.toNat), r.drop k.toNat)
abbrev St := Option (List UInt8)
def rU : St → Nat × St
  | none => (0, none)
  | some p => match rdU p with
    | none => (0, none)
    | some (n, r) => (n, some r)
def rI (s : St) : Int × St := (zag (rU s).1, (rU s).2)
def rUp (most : Nat) (s : St) : Nat × St := if (rU s).2 = none ∨ most < (rU s).1 then (0, none) else rU s
end Go.Oc
namespace Go.Oc
end Go.Oc
namespace Go.Oc
end Go.Oc
set_option linter.unusedSimpArgs false
set_option linter.unusedVariables false
set_option linter.unusedSectionVars false
namespace Go.Am
open Go Go.RowKit
variable [SymE]
inductive Rb (aw : AW) : Value → List UInt8 → Prop
  | nil : Rb aw (.slice none 0 0) []
  | emp {b off c : Nat} (hc : c < UNK ∨ ∃ B, aw.m b = some B ∧ B.esz = 1) : Rb aw (.slice (some ⟨b, off, none⟩) 0 c) []
  | «at» {b off c : Nat} {B : Blk} {bs : List UInt8} (hb : aw.m b = some B) (he : B.esz = 1) (hl : off + bs.length ≤ B.cells.length) (hc : (B.cells.drop off).take bs.length = bytesV bs) (hcap : c < UNK → bs.length ≤ c) : Rb aw (.slice (some ⟨b, off, none⟩) bs.length c) bs
section
variable {aw aw' aw0 : AW} {own : List Nat} {ro l L S S' : List (Nat × Blk)} {v w : Value} {bs cs : List UInt8} {k : Nat}
theorem bytesV_get (l : List UInt8) (i : Nat) : (bytesV l)[i]? = (l[i]?).map fun b => .int .u8 b.toNat := by simp [bytesV]
theorem bytesV_one (l : List UInt8) : (bytesV l).all one = true := by
  simp only [bytesV, List.all_eq_true, List.mem_map]
  rintro x ⟨b, _, rfl⟩
  rfl
theorem Rb.len (h : Rb aw v bs) : ∃ q c, v = .slice q bs.length c := by
  cases h with
  | nil => exact ⟨_, _, rfl⟩
  | emp => exact ⟨_, _, rfl⟩
  | «at» => exact ⟨_, _, rfl⟩
theorem Rb.src (h : Rb aw v bs) : Src aw 1 v bs.length (bytesV bs) := by
  cases h with
  | nil => exact .nil
  | emp => exact .slice (by simp [AW.getN, bytesV])
  | «at» hb he hl hc hcap => exact src_x ⟨hb⟩ (by omega) (by rw [Nat.mul_one]; exact hc)
theorem Rb.get (h : Rb aw v bs) {i : Nat} {x : UInt8} (hi : bs[i]? = some x) : ∃ b off c, v = .slice (some ⟨b, off, none⟩) bs.length c ∧ aw.get b (off + i * 1) = some (.int .u8 x.toNat) := by
  cases h with
  | nil => cases hi
  | emp => cases hi
  | «at» hb he hl hc hcap =>
    rename_i b off c B
    refine ⟨b, off, c, rfl, ?_⟩
    have hlt := (List.getElem?_eq_some_iff.1 hi).1
    have := congrArg (fun q => q[i]?) hc
    simp only [bytesV_get, hi, Option.map_some] at this
    rw [List.getElem?_take, if_pos hlt, List.getElem?_drop] at this
    rw [Nat.mul_one]
    exact get_m hb this
theorem Rb.cut (h : Rb aw v bs) {lo hi : Nat} (h1 : lo ≤ hi) (h2 : hi ≤ bs.length) : ∃ v', Cut aw 1 v (lo : Int) (hi : Int) v' ∧ Rb aw v' ((bs.drop lo).take (hi - lo)) := by
  cases h with
  | nil =>
    simp at h2
    subst h2
    obtain rfl : lo = 0 := by omega
    exact ⟨_, .nil, .nil⟩
  | emp hc =>
    rename_i b off c
    simp at h2
    subst h2
    obtain rfl : lo = 0 := by omega
    refine ⟨_, .some (Nat.le_refl _) (by split <;> omega) (fun hcc => hc.resolve_left (by omega)), ?_⟩
    simp only [Nat.sub_self, List.take_zero]
    refine .emp ?_
    rcases hc with hc | hc
    · left; unfold capOf; split <;> omega
    · exact .inr hc
  | «at» hb he hl hc hcap =>
    rename_i b off c B
    refine ⟨_, .some h1 (by split <;> first | omega | (rename_i hcc; have := hcap hcc; omega)) (fun _ => ⟨B, hb, he⟩), ?_⟩
    have hlen : ((bs.drop lo).take (hi - lo)).length = hi - lo := by simp; omega
    have hcells : (B.cells.drop (off + lo * 1)).take ((bs.drop lo).take (hi - lo)).length = bytesV ((bs.drop lo).take (hi - lo)) := by
      rw [hlen, Nat.mul_one]
      have e1 : bytesV ((bs.drop lo).take (hi - lo)) = ((bytesV bs).drop lo).take (hi - lo) := by simp [bytesV, List.map_take, List.map_drop]
      rw [e1, ← hc, List.drop_take, List.drop_drop, List.take_take]
      congr 1
      omega
    have := Rb.at (aw := aw) (b := b) (off := off + lo * 1) (c := capOf c lo) hb he (by rw [hlen]; omega) hcells (by
      rw [hlen]
      unfold capOf
      intro hq
      split at hq <;> rename_i hcc
      · have := hcap hcc
        simp only [hcc, if_true]
        omega
      · unfold UNK at *; omega)
    rw [hlen] at this
    exact this
def Rs (aw0 : AW) (own : List Nat) (ro S : List (Nat × Blk)) (v : Value) (bs : List UInt8) : Prop := ∀ (aw : AW) (L : List (Nat × Blk)), Hp aw0 own ro aw L → (∀ p ∈ S, p ∈ L) → Rb aw v bs
theorem Rs.more (h : Rs aw0 own ro S v bs) (hs : ∀ p ∈ S, p ∈ S') : Rs aw0 own ro S' v bs := fun aw L M hl => h aw L M fun p hp => hl p (hs p hp)
theorem Rs.first (h : Rb aw0 v bs) (ho : ∀ b off n c, v = .slice (some ⟨b, off, none⟩) n c → b < aw0.next ∧ b ∉ own) : Rs aw0 own ro S v bs := by
  intro aw L M _
  cases h with
  | nil => exact .nil
  | emp hc =>
    obtain ⟨h1, h2⟩ := ho _ _ _ _ rfl
    exact .emp (by rw [M.keep _ h1 h2]; exact hc)
  | «at» hb he hl hc hcap =>
    obtain ⟨h1, h2⟩ := ho _ _ _ _ rfl
    exact .at (by rw [M.keep _ h1 h2]; exact hb) he hl hc hcap
inductive Ob (el : Nat) : Value → List UInt8 → List (Nat × Blk) → Prop
  | nil : Ob el (.slice none 0 0) [] []
  | blk {b n c : Nat} {bs : List UInt8} (hn : n = bs.length) (hc : c = n ∨ c = UNK) : Ob el (.slice (some ⟨b, 0, none⟩) n c) bs [(b, ⟨bytesV bs, el, 1, true, 0⟩)]
theorem Ob.rs {el : Nat} (h : Ob el v bs L) : Rs aw0 own ro L v bs := by
  intro aw L' M hs
  cases h with
  | nil => exact .nil
  | blk hn hc =>
    subst hn
    have := (M.at_ _ (hs _ (List.mem_singleton.2 rfl))).1
    refine .at this rfl (by simp [bytesV]) (by rw [List.drop_zero, List.take_of_length_le (by simp [bytesV])]) (fun h => ?_)
    rcases hc with rfl | rfl
    · exact Nat.le_refl _
    · exact absurd h (Nat.lt_irrefl _)
end
end Go.Am
set_option linter.unusedSimpArgs false
set_option linter.unusedVariables false
namespace Go.Am
open Go Go.Oc
theorem wrap_u64 (n : Int) : IntKind.u64.wrap n = n % 18446744073709551616 := by
  simp [IntKind.wrap, IntKind.bits, IntKind.signed]
section
variable {m n : Nat}
end
end Go.Am
set_option linter.unusedSimpArgs false
set_option linter.unusedVariables false
set_option linter.unusedSectionVars false
namespace Go.Am
open Go Go.RowKit
variable [SymE]
def RoOk (awS aw : AW) : Prop := ∀ b B, b < aw.next → aw.m b = some B → B.rw = false → ∃ B0, awS.m b = some B0
section
variable {P : Program} {N : Nat} {ops : Array Oper} {p q nh qx nhx : List Nat} {tl r pre post : Tl} {k : List Item} {ρ ρm : Env} {ds : List Deferred} {aw aw' awS : AW} {c : Code} {o ox : Oper} {t d x : Nat} {v : Value} {dt : Option Tmp}
  {Kn : Env → List Deferred → AW → Prop} {Kp : List PanicEntry → Env → List Deferred → AW → Prop} {R : ADone → Env → List Deferred → AW → Prop} {cells : List Value} {elem esz : Nat} {mkv : Nat → Value}
theorem ago_drawXH {id : Nat} {hv : List (Nat × Value)} (e : c = .region id ops true) (hm : P.follows .mixedOrders = true) (hN : dstsOk N ops = true) (hok : linXOk ops x d p pre qx nhx post = true)
    (hxo : ops[x]? = some ox) (hxg : ox.guard = none) (hxd : ox.dst = some d) (hmk : Makes P ox cells elem esz mkv) (hh : hv.map (·.1) = p) (hρ : putV ops ρ hv = ρm) (hop : FFl P ops p ρm aw)
    (hk : LinX P ops d cells elem esz mkv qx nhx post aw (fun ρ' ds' aw' => AGo P N k ρ' ds' aw' R) (fun ch ρ' ds' aw' => R (.panic ch) ρ' ds' aw') pre ρm ds aw) : AGo P N (.code c :: k) ρ ds aw R := by
  subst e
  exact ago_drawX hm hN hok hxo hxg hxd hmk (by subst hρ; subst hh; exact offV hv ρ fun _ h => h) hop hk
def NextX (P : Program) (ops : Array Oper) (d : Tmp) (cells : List Value) (elem esz : Nat) (mkv : Nat → Value) (qx nhx : List Nat) (post : Tl) (awS : AW) (Kn : Env → List Deferred → AW → Prop) (Kp : List PanicEntry → Env → List Deferred → AW → Prop) (q nh : List Nat) (r : Tl) (ρ' : Env) (ds' : List Deferred) (aw' : AW) : Prop :=
  ∃ ρ2, OffL ops nh ρ' ρ2 ∧ FFl P ops (q ++ nh) ρ2 aw' ∧ LinX P ops d cells elem esz mkv qx nhx post awS Kn Kp r ρ2 ds' aw'
theorem lx_next {l : List Nat} {hv : List (Nat × Value)} (hh : hv.map (·.1) = nh) (hl : q ++ nh = l) (hρ : putV ops ρ hv = ρm) (hop : FFl P ops l ρm aw) (hk : LinX P ops d cells elem esz mkv qx nhx post awS Kn Kp r ρm ds aw) : NextX P ops d cells elem esz mkv qx nhx post awS Kn Kp q nh r ρ ds aw :=
  ⟨ρm, by subst hρ; subst hh; exact offV hv ρ fun _ h => h, by rw [hl]; exact hop, hk⟩
theorem lx_call {α : Type} {sh : α → Value} {K : α → AW → Prop} {E : List PanicEntry → AW → Prop} {fid : FuncId} {args : List Value} (ho : ops[t]? = some o) (hd : o.dst = dt)
    (h : ∀ ρ', (∀ t ∈ looks ops o, ρ' t = ρ t) → wants ops o ρ' true ∧ OpC P o ρ' fid args) (H : CallP P fid args aw sh K E) (hE : ∀ ch aw, E ch aw → False)
    (hn : ∀ x aw', K x aw' → NextX P ops d cells elem esz mkv qx nhx post awS Kn Kp q nh r (ρ.put dt (sh x)) ds aw') : LinX P ops d cells elem esz mkv qx nhx post awS Kn Kp ((t, q, nh) :: r) ρ ds aw :=
  ⟨o, ho, .call h (ACalls.mono H fun e aw h => match e, h with
    | .returned _, ⟨x, h1, h2⟩ => by subst h1; subst hd; exact hn x aw h2
    | .panicked _, h => fun ρ' _ => hE _ _ h)⟩
theorem lx_met {l : List Nat} {hv : List (Nat × Value)} (hro : RoOk awS aw) (hpv : v = mkv aw.next) (ha : aw' = aw.alloc cells elem esz) (hh : hv.map (·.1) = nhx) (hl : qx ++ nhx = l) (hρ : putV ops (ρ.put (some d) v) hv = ρm) (hop : FFl P ops l ρm aw')
    (hk : LinT P ops Kn Kp post ρm ds aw') : LinX P ops d cells elem esz mkv qx nhx post awS Kn Kp [] ρ ds aw := by
  subst hpv; subst ha
  exact ⟨hro, ρm, by subst hρ; subst hh; exact offV hv _ fun _ h => h, by rw [hl]; exact hop, hk⟩
theorem makes_alloc {tt : TypeId} {zz : Value} {zl : List Value} (hop : o.op = .alloc tt) (hz : (P.info? tt).bind (·.zero) = some zz) (hp : plains zz.cells.toList = true) (hzl : zz.cells.toList = zl) : Makes P o zl tt 0 (fun b => .pointer (some ⟨b, 0, none⟩)) := by
  subst hzl
  refine ⟨hp, fun f w => ?_, fun s b e he h0 => ?_⟩
  · simp only [execOp, hop, Instr.alloc, Sem.run_bind, run_zeroValue' hz, Result.andThen_ok, newVar, run_newRow, Sem.run_pure]
  · have := VR.ptr (s := s) (o := 0) he
    rw [h0] at this
    simpa using this
theorem ago_drawGH {id : Nat} {xs : List Flo} {hv : List (Nat × Value)} (e : c = .region id ops true) (hm : P.follows .mixedOrders = true) (hN : dstsOk N ops = true) (hok : linGOk ops (xs.map fun F => (F.x, F.d)) p q nh post = true)
    (hh : hv.map (·.1) = p) (hρ : putV ops ρ hv = ρm) (hmk : ∀ F ∈ xs, ∀ o, ops[F.x]? = some o → MakesR P ops o ρm F) (hop : FFl P ops p ρm aw)
    (hk : LinG P ops xs q nh post (fun ρ' ds' aw' => AGo P N k ρ' ds' aw' R) (fun ch ρ' ds' aw' => R (.panic ch) ρ' ds' aw') ρm ds aw) : AGo P N (.code c :: k) ρ ds aw R := by
  subst e
  exact ago_drawG hm hN hok hmk (by subst hρ; subst hh; exact offV hv ρ fun _ h => h) hop hk
def refs : List Flo → Nat → List Value
  | [], _ => []
  | F :: r, n => F.ref n :: refs r (n + 1)
def putFl : List Flo → List Value → Env → Env
  | F :: r, v :: vs, ρ => putFl r vs (ρ.put (some F.d) v)
  | _, _, ρ => ρ
theorem putFl_refs : ∀ (xs : List Flo) (n : Nat) (ρ : Env), putFl xs (refs xs n) ρ = putsF xs n ρ
  | [], _, _ => rfl
  | F :: r, n, ρ => putFl_refs r (n + 1) _
theorem gmk_of {xs : List Flo} (h : ∀ F ∈ xs, ∃ o, ops[F.x]? = some o ∧ MakesR P ops o ρ F) : ∀ F ∈ xs, ∀ o, ops[F.x]? = some o → MakesR P ops o ρ F := fun F hF o ho => by
  obtain ⟨o', h1, h2⟩ := h F hF
  rw [h1] at ho
  obtain rfl := Option.some.inj ho
  exact h2
theorem lg_next {xs : List Flo} {vs : List Value} {l : List Nat} {hv : List (Nat × Value)} (hh : hv.map (·.1) = nh) (hl : q ++ nh = l) (ha : aw' = allocs xs aw) (hvs : vs = refs xs aw.next) (hρ : putV ops (putFl xs vs ρ) hv = ρm) (hop : FFl P ops l ρm aw') (hk : LinT P ops Kn Kp post ρm ds aw') : LinG P ops xs q nh post Kn Kp ρ ds aw := by
  subst ha; subst hvs
  exact ⟨ρm, by subst hρ; subst hh; rw [putFl_refs]; exact offV hv _ fun _ h => h, by rw [hl]; exact hop, hk⟩
theorem agr_opd' {ρ' : Env} (hag : Agr ops o ρ ρ') {x : Operand} (hx : x ∈ o.op.operands.toList) : ρ'.eval x = ρ.eval x := by
  cases x with
  | tmp t =>
    refine hag t ?_
    unfold looks
    refine List.mem_append.2 (.inl (List.mem_filterMap.2 ⟨_, hx, rfl⟩))
  | const v => rfl
  | global g => rfl
  | func f => rfl
theorem makesR_mk {i : Nat} {tt el : TypeId} {size bytes : Nat} {k' k'' : IntKind} {m cp : Int} {zz : Value} {zl : List Value} {x y : Operand} (hop : o.op = .makeSlice tt x y) (x1 : okOpd P.globals.size x = true) (y1 : okOpd P.globals.size y = true)
    (hu : P.underlying tt = some (.slice el)) (hs : (P.info? el).map (·.size) = some size) (hby : (P.info? el).map (·.bytes) = some bytes) (hz0 : (P.info? el).bind (·.zero) = some zz) (hzs : zz.cells.size = size) (hs0 : 0 < size) (hp : plains zz.cells.toList = true) (hzl : zz.cells.toList = zl)
    (x2 : ρ.eval x = .int k' m) (y2 : ρ.eval y = .int k'' cp) (h0 : 0 ≤ m) (hm : m ≤ cp) (hb : bytes * cp.toNat ≤ 2 ^ 47) (hc : cp < 2 ^ 60) : MakesR P ops o ρ ⟨i, d, zeros zl cp.toNat, el, size, fun b => .slice (some ⟨b, 0, none⟩) m.toNat cp.toNat⟩ := by
  subst hzl
  obtain ⟨m', rfl⟩ : ∃ m' : Nat, m = (m' : Int) := ⟨m.toNat, by omega⟩
  obtain ⟨c', rfl⟩ : ∃ c' : Nat, cp = (c' : Int) := ⟨cp.toNat, by omega⟩
  simp only [Int.toNat_natCast] at *
  refine ⟨zeros_plain hp c', fun ρ' hag s f w hf => ?_, fun s b e he h0 => ?_⟩
  · have e1 := hf x x1
    rw [agr_opd' hag (by rw [hop]; simp [Op.operands]), x2] at e1
    have e2 := hf y y1
    rw [agr_opd' hag (by rw [hop]; simp [Op.operands]), y2] at e2
    obtain ⟨inf, hinf⟩ : ∃ inf, P.info? el = some inf := by
      cases h : P.info? el with
      | none => simp [h] at hs
      | some q => exact ⟨q, rfl⟩
    have hbb : inf.bytes = bytes := by simpa [hinf] using hby
    have w1 : IntKind.i64.wrap (m' : Int) = m' := IntWalk.i64_in _ (by omega)
    have w2 : IntKind.i64.wrap (c' : Int) = c' := IntWalk.i64_in _ (by omega)
    have hb' : ((inf.bytes : Int) * (c' : Int)) ≤ 2 ^ 47 := by rw [hbb]; exact_mod_cast hb
    have hzz : (Array.range (c' * size)).map (zz.cells[· % size]!) = (zeros zz.cells.toList c').toArray := by
      apply Array.toList_inj.1
      rw [← hzs, ← madeCells_zeros (by omega) c']
    have hfin : (Instr.makeSlice tt (.int k' (m' : Int)) (.int k'' (c' : Int))).run P w = .ok (.slice (some ⟨w.heap.size, 0, none⟩) m' c') (w.alloc (.cells ((Array.range (c' * size)).map (zz.cells[· % size]!)) el)) := by
      simp only [Instr.makeSlice, Sem.run_bind, run_underlying hu, Result.andThen_ok, asInt, run_asIntOf, Sem.run_pure, run_typeInfo w hinf, w1, w2]
      rw [if_neg (by simp; omega)]
      simp only [Sem.run_bind, run_askRoom, Result.andThen_ok, run_sizeOf' hs, Int.toNat_natCast]
      by_cases hn : c' * size = 0
      · have : c' = 0 := by
          rcases Nat.mul_eq_zero.1 hn with h | h
          · exact h
          · omega
        subst this
        simp only [hn, if_true, Sem.run_pure, Result.andThen_ok, Sem.run_bind, run_newRow]
        congr 3
        apply Array.toList_inj.1
        simp
      · simp only [hn, if_false, Sem.run_bind, run_zeroValue' hz0, Result.andThen_ok, Sem.run_pure, run_newRow, hzs]
    have f1 : f x = .int k' (m' : Int) := VR.int_inv e1
    have f2 : f y = .int k'' (c' : Int) := VR.int_inv e2
    simp only [execOp, hop, f1, f2, Sem.run_bind, hfin, Result.andThen_ok, Sem.run_pure, hzz]
  · refine .slice (by omega) (fun _ => rfl) fun _ => ⟨e, he, by cases e; simp_all, fun h => by unfold UNK at h; omega⟩
end
end Go.Am
set_option linter.unusedSimpArgs false
set_option linter.unusedVariables false
set_option linter.unusedSectionVars false
namespace Go.Am
open Go Go.RowKit
variable [SymE]
section
variable {P : Program} {ρ : Env} {aw aw' : AW} {o : Oper} {v : Value} {x y : Operand} {at' : Array TypeId} {sT xT el : TypeId} {size bytes l n c : Nat} {z sv : Value}
end
end Go.Am
set_option linter.unusedSimpArgs false
set_option linter.unusedVariables false
set_option linter.unusedSectionVars false
namespace Go.Am
open Go Go.RowKit
variable [SymE]
inductive Rw (aw : AW) : Value → List UInt8 → Prop
  | of {v : Value} {bs : List UInt8} (h : Rb aw v bs) : Rw aw v bs
  | void {b off c : Nat} : Rw aw (.slice (some ⟨b, off, none⟩) 0 c) []
section
variable {aw aw0 : AW} {own : List Nat} {ro l L S S' : List (Nat × Blk)} {v : Value} {bs : List UInt8}
theorem Rw.len (h : Rw aw v bs) : ∃ q c, v = .slice q bs.length c := by
  cases h with
  | of h => exact h.len
  | void => exact ⟨_, _, rfl⟩
theorem Rw.src (h : Rw aw v bs) : Src aw 1 v bs.length (bytesV bs) := by
  cases h with
  | of h => exact h.src
  | void => exact .slice (by simp [AW.getN, bytesV])
theorem toS_w {X : ByteArray → Prop} (h : Rw aw v bs) (hX : X ⟨bs.toArray⟩) : toS aw v X := by
  obtain ⟨q, c, e⟩ := h.len
  exact ⟨bs, bs.length, _, h.src, ⟨q, _, c, e⟩, rfl, hX⟩
def Rws (aw0 : AW) (own : List Nat) (ro S : List (Nat × Blk)) (v : Value) (bs : List UInt8) : Prop := ∀ (aw : AW) (L : List (Nat × Blk)), Hp aw0 own ro aw L → (∀ p ∈ S, p ∈ L) → Rw aw v bs
theorem Rws.more (h : Rws aw0 own ro S v bs) (hs : ∀ p ∈ S, p ∈ S') : Rws aw0 own ro S' v bs := fun aw L M hl => h aw L M fun p hp => hl p (hs p hp)
theorem Rs.w (h : Rs aw0 own ro S v bs) : Rws aw0 own ro S v bs := fun aw L M hl => .of (h aw L M hl)
theorem Rws.void {b off c : Nat} : Rws aw0 own ro S (.slice (some ⟨b, off, none⟩) 0 c) [] := fun _ _ _ _ => .void
end
end Go.Am
