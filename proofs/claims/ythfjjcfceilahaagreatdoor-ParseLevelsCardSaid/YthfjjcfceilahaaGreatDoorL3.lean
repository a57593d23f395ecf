/- The library of this claim, part 3: values alike, an abstract memory, operations, regions, an interpreter that the kernel runs. -/
import Derived.Test.YthfjjcfceilahaaGreatDoorL2
import Derived.RangeFuncIn
set_option linter.unusedSimpArgs false
set_option linter.unusedVariables false
set_option linter.unusedSectionVars false
namespace Go.Ri
open Go Go.Am Go.RowKit
noncomputable def lEqL (e : Value → Value → Bool) : List Value → List Value → Bool := List.rec (motive := fun _ => List Value → Bool) (fun l => List.rec (motive := fun _ => Bool) true (fun _ _ _ => false) l) fun a _ ih l => List.rec (motive := fun _ => Bool) false (fun b l _ => Bool.rec (motive := fun _ => Bool) false (ih l) (e a b)) l
def qBool (p : Bool) : Value → Bool
  | .bool q => p == q
  | _ => false
def qInt (k : IntKind) (m : Int) : Value → Bool
  | .int k' n => decide (k = k') && decide (m = n)
  | _ => false
def qStr (x : List UInt8) : Value → Bool
  | .string ⟨⟨y⟩⟩ => decide (x = y)
  | _ => false
def qAddr : Option Addr → Option Addr → Bool
  | none, none => true
  | some ⟨b1, o1, none⟩, some ⟨b2, o2, none⟩ => Nat.beq b1 b2 && Nat.beq o1 o2
  | _, _ => false
def qPtr (x : Option Addr) : Value → Bool
  | .pointer y => qAddr x y
  | _ => false
def qSl (x : Option Addr) (l c : Nat) : Value → Bool
  | .slice y l' c' => qAddr x y && (Nat.beq l l' && Nat.beq c c')
  | _ => false
def qMap (x : Option Nat) : Value → Bool
  | .map none => (match x with | none => true | some _ => false)
  | .map (some y) => (match x with | none => false | some x => Nat.beq x y)
  | _ => false
def qNF : Value → Bool
  | .nilFunc => true
  | _ => false
def qNI : Value → Bool
  | .nilIface => true
  | _ => false
noncomputable def qIf (e : Value → Value → Bool) (t : TypeId) (u : Value) : Value → Bool
  | .iface t' u' => Nat.beq t t' && e u u'
  | _ => false
noncomputable def qFn (e : Value → Value → Bool) (f : FuncId) (a c : List Value) : Value → Bool
  | .func (.func f') ⟨a'⟩ ⟨c'⟩ => Nat.beq f f' && (lEqL e a a' && lEqL e c c')
  | _ => false
noncomputable def qAgg (e : Value → Value → Bool) (a : List Value) : Value → Bool
  | .agg ⟨b⟩ => lEqL e a b
  | _ => false
noncomputable def qTup (e : Value → Value → Bool) (a : List Value) : Value → Bool
  | .tuple ⟨b⟩ => lEqL e a b
  | _ => false
noncomputable def vEq : Nat → Value → Value → Bool := Nat.rec (motive := fun _ => Value → Value → Bool) (fun _ _ => false) fun _ ih a b => match a with
  | .bool p => qBool p b
  | .int k m => qInt k m b
  | .string ⟨⟨x⟩⟩ => qStr x b
  | .pointer x => qPtr x b
  | .slice x l c => qSl x l c b
  | .map x => qMap x b
  | .nilFunc => qNF b
  | .nilIface => qNI b
  | .iface t u => qIf ih t u b
  | .func (.func f) ⟨a⟩ ⟨c⟩ => qFn ih f a c b
  | .agg ⟨a⟩ => qAgg ih a b
  | .tuple ⟨a⟩ => qTup ih a b
  | _ => false
noncomputable def vEq.lEq := @lEqL
theorem lEqL_spec {e : Value → Value → Bool} (he : ∀ a b, e a b = true → a = b) : ∀ {a b : List Value}, lEqL e a b = true → a = b
  | [], [], _ => rfl
  | [], _ :: _, h => by cases h
  | _ :: _, [], h => by cases h
  | x :: a, y :: b, h => by
    have h : Bool.rec (motive := fun _ => Bool) false (lEqL e a b) (e x y) = true := h
    cases hx : e x y with
    | false => rw [hx] at h; cases h
    | true =>
      rw [hx] at h
      rw [he x y hx, lEqL_spec he h]
theorem lEq_spec {e : Value → Value → Bool} (he : ∀ a b, e a b = true → a = b) {a b : List Value} (h : vEq.lEq e a b = true) : a = b := lEqL_spec he h
theorem qAddr_spec {x y : Option Addr} (h : qAddr x y = true) : x = y := by
  unfold qAddr at h
  split at h
  · rfl
  · simp only [Bool.and_eq_true, Nat.beq_eq] at h
    rw [h.1, h.2]
  · cases h
theorem vEq_spec : ∀ (n : Nat) (a b : Value), vEq n a b = true → a = b
  | 0, a, b, h => by cases h
  | n + 1, a, b, h0 => by
    have ih := vEq_spec n
    have h : (match (generalizing := false) a with
      | .bool p => qBool p b
      | .int k m => qInt k m b
      | .string ⟨⟨x⟩⟩ => qStr x b
      | .pointer x => qPtr x b
      | .slice x l c => qSl x l c b
      | .map x => qMap x b
      | .nilFunc => qNF b
      | .nilIface => qNI b
      | .iface t u => qIf (vEq n) t u b
      | .func (.func f) ⟨a⟩ ⟨c⟩ => qFn (vEq n) f a c b
      | .agg ⟨a⟩ => qAgg (vEq n) a b
      | .tuple ⟨a⟩ => qTup (vEq n) a b
      | _ => false) = true := h0
    clear h0
    split at h
    · unfold qBool at h; split at h
      · rw [eq_of_beq h]
      · cases h
    · unfold qInt at h; split at h
      · simp only [Bool.and_eq_true, decide_eq_true_eq] at h; rw [h.1, h.2]
      · cases h
    · unfold qStr at h; split at h
      · rw [of_decide_eq_true h]
      · cases h
    · unfold qPtr at h; split at h
      · rw [qAddr_spec h]
      · cases h
    · unfold qSl at h; split at h
      · simp only [Bool.and_eq_true, Nat.beq_eq] at h; rw [qAddr_spec h.1, h.2.1, h.2.2]
      · cases h
    · unfold qMap at h; split at h
      · split at h
        · rfl
        · cases h
      · split at h
        · cases h
        · rw [Nat.eq_of_beq_eq_true h]
      · cases h
    · unfold qNF at h; split at h
      · rfl
      · cases h
    · unfold qNI at h; split at h
      · rfl
      · cases h
    · unfold qIf at h; split at h
      · simp only [Bool.and_eq_true, Nat.beq_eq] at h; rw [h.1, ih _ _ h.2]
      · cases h
    · unfold qFn at h; split at h
      · simp only [Bool.and_eq_true, Nat.beq_eq] at h; rw [h.1, lEqL_spec ih h.2.1, lEqL_spec ih h.2.2]
      · cases h
    · unfold qAgg at h; split at h
      · rw [lEqL_spec ih h]
      · cases h
    · unfold qTup at h; split at h
      · rw [lEqL_spec ih h]
      · cases h
    · cases h
variable [SymE]
variable [FT] [FTok]
abbrev Caller := FuncId → List Value → Mem → Option (AEnd × Mem)
def CS (P : Program) (C : Caller) : Prop := ∀ f args M e M', C f args M = some (e, M') → ACalls P f args M.abs fun e' aw' => e' = e ∧ aw' = M'.abs
section
variable {R : Type}
noncomputable def doT (t : T Value) (k : T Value → R) : R := T.dn t k
theorem doT_eq (t : T Value) (k : T Value → R) : doT t k = k t := rfl
noncomputable def doM (M : Mem) (k : Mem → R) : R := Mem.rec (motive := fun _ => R) (fun bl n => T.dn bl fun bl => doN n fun n => k ⟨bl, n⟩) M
theorem doM_eq (M : Mem) (k : Mem → R) : doM M k = k M := by
  obtain ⟨bl, n⟩ := M
  show T.dn bl (fun bl => doN n fun n => k ⟨bl, n⟩) = _
  rw [T.dn_eq, doN_eq]
end
inductive OpsR where
  | norm (ρ : T Value) (ds : List Deferred) (M : Mem)
  | pan (ch : List PanicEntry) (ρ : T Value) (ds : List Deferred) (M : Mem)
  | bad
def OpsR.holds (Kn : Env → List Deferred → AW → Prop) (Kp : List PanicEntry → Env → List Deferred → AW → Prop) : OpsR → Prop
  | .norm ρ ds M => Kn (slot ρ) ds M.abs
  | .pan ch ρ ds M => Kp ch (slot ρ) ds M.abs
  | .bad => False
def OpsR.holdsX (ops : Array Oper) (Kn : Env → List Deferred → AW → Prop) (Kp : List PanicEntry → Env → List Deferred → AW → Prop) : OpsR → Prop
  | .norm ρ ds M => Kn (slot ρ) ds M.abs
  | .pan ch ρ ds M => ∀ ρ', Off ops (slot ρ) ρ' → Kp ch ρ' ds M.abs
  | .bad => False
noncomputable def op1 (P : Program) (X : Exts) (C : Caller) (ops : Array Oper) (o : Oper) (ρ : T Value) (ds : List Deferred) (M : Mem) (next : T Value → List Deferred → Mem → OpsR) : OpsR := match gd ops (slot ρ) o.guard with
  | none => .bad
  | some false => doT (putS ρ o.dst undef) fun ρ => next ρ ds M
  | some true => (match o.op with
    | .call ⟨.value z, ⟨xs⟩, _⟩ => (match calls P (slot ρ) z xs with
      | none => (match extR P X (slot ρ) z xs with
        | none => .bad
        | some v => doV v fun v => doT (putS ρ o.dst v) fun ρ => next ρ ds M)
      | some (g, l) => doL l fun l => (match C g l M with
        | none => .bad
        | some (.returned v, M') => doV v fun v => doT (putS ρ o.dst v) fun ρ => doM M' fun M' => next ρ ds M'
        | some (.panicked ch, M') => .pan ch ρ ds M'))
    | .defer ⟨.value z, ⟨xs⟩, _⟩ => (match defers P (slot ρ) z xs with
      | none => .bad
      | some d => doT (putS ρ o.dst undef) fun ρ => next ρ (d :: ds) M)
    | .panic x => (match okv P.globals.size (slot ρ) x with
      | some (.iface u z) => .pan [⟨.iface u z, false, false⟩] ρ ds M
      | _ => .bad)
    | op => (match eOp P (slot ρ) M op with
      | none => .bad
      | some (v, M') => doV v fun v => doT (putS ρ o.dst v) fun ρ => doM M' fun M' => next ρ ds M'))
noncomputable def ops1 (P : Program) (X : Exts) (C : Caller) (ops : Array Oper) (l : List Oper) : T Value → List Deferred → Mem → OpsR := List.rec (motive := fun _ => T Value → List Deferred → Mem → OpsR) (fun ρ ds M => .norm ρ ds M)
  (fun o _ ih ρ ds M => op1 P X C ops o ρ ds M ih) l
section
variable {P : Program} {X : Exts} {C : Caller} {N : Nat} {ops : Array Oper} {Kn : Env → List Deferred → AW → Prop} {Kp : List PanicEntry → Env → List Deferred → AW → Prop}
theorem slot_put (ρ : T Value) (d : Option Tmp) (v : Value) : slot (putS ρ d v) = (show Env from slot ρ).put d v := putS_spec ρ d v
theorem op1_spec (hX : ExtOk P X) (hC : CS P C) (hN : dstsOk N ops = true) {o : Oper} {i : Nat} {rest : List Nat} (ho : ops[i]? = some o) {next : T Value → List Deferred → Mem → OpsR}
    (hn : ∀ ρ ds M, (next ρ ds M).holds Kn Kp → AOps P N ops rest (slot ρ) ds M.abs Kn Kp) {ρ : T Value} {ds : List Deferred} {M : Mem} (h : (op1 P X C ops o ρ ds M next).holds Kn Kp) : AOps P N ops (i :: rest) (slot ρ) ds M.abs Kn Kp := by
  unfold op1 at h
  split at h
  · exact h.elim
  · rename_i hg
    rw [doT_eq] at h
    have := hn _ _ _ h
    rw [slot_put] at this
    exact aops_skip hN ho (gd_spec hg Agr.refl) this
  · rename_i hg
    have hw := gd_spec (ρ := slot ρ) (ops := ops) (o := o) hg Agr.refl
    generalize hop : o.op = p at h
    split at h
    · rename_i z xs ts
      split at h
      · split at h
        · exact h.elim
        rename_i v hv
        rw [doV_eq, doT_eq] at h
        have := hn _ _ _ h
        rw [slot_put] at this
        exact aops_val hN ho hw (extR_spec hX hop hv) this
      rename_i g l hc
      rw [doL_eq] at h
      split at h
      · exact h.elim
      · rename_i v M' hr
        rw [doV_eq, doT_eq, doM_eq] at h
        have := hn _ _ _ h
        rw [slot_put] at this
        refine aops_call hN ho hw (calls_spec hop hc) (ACalls.mono (hC _ _ _ _ _ hr) fun e aw' he => ?_)
        obtain ⟨rfl, rfl⟩ := he
        exact this
      · rename_i ch M' hr
        refine aops_call hN ho hw (calls_spec hop hc) (ACalls.mono (hC _ _ _ _ _ hr) fun e aw' he => ?_)
        obtain ⟨rfl, rfl⟩ := he
        exact h
    · rename_i z xs ts
      split at h
      · exact h.elim
      rename_i d hd
      rw [doT_eq] at h
      have := hn _ _ _ h
      rw [slot_put] at this
      exact aops_defer hN ho hw (defers_spec hop hd) this
    · rename_i x
      split at h
      · rename_i u z hx
        obtain ⟨x1, x2⟩ := okv_spec hx
        exact aops_panic hN ho hw (opp_panic hop x1 x2) h
      · exact h.elim
    · split at h
      · exact h.elim
      rename_i v M' hv
      rw [doV_eq, doT_eq, doM_eq] at h
      have := hn _ _ _ h
      rw [slot_put] at this
      exact aops_val hN ho hw (eOp_spec (by rw [hop]; exact hv)) this
theorem ops1_spec (hX : ExtOk P X) (hC : CS P C) (hN : dstsOk N ops = true) : ∀ (l : List Oper) (i : Nat) (ρ : T Value) (ds : List Deferred) (M : Mem), ops.toList.drop i = l → (ops1 P X C ops l ρ ds M).holds Kn Kp → AOps P N ops (List.range' i l.length) (slot ρ) ds M.abs Kn Kp
  | [], i, ρ, ds, M, hl, h => aops_nil h
  | o :: l, i, ρ, ds, M, hl, h => by
    have hi : i < ops.toList.length := by
      rcases Nat.lt_or_ge i ops.toList.length with h | h
      · exact h
      · rw [List.drop_eq_nil_of_le h] at hl; cases hl
    rw [List.drop_eq_getElem_cons hi] at hl
    injection hl with h1 h2
    have ho : ops[i]? = some o := by
      rw [← h1]
      have hi' : i < ops.size := by simpa using hi
      simp [hi']
    exact op1_spec hX hC hN ho (fun ρ ds M h => ops1_spec hX hC hN l (i + 1) ρ ds M h2 h) h
theorem region_spec (hX : ExtOk P X) (hC : CS P C) (hN : dstsOk N ops = true) {ρ : T Value} {ds : List Deferred} {M : Mem} (h : (ops1 P X C ops ops.toList ρ ds M).holds Kn Kp) : AOps P N ops (List.range ops.size) (slot ρ) ds M.abs Kn Kp := by
  have := ops1_spec hX hC hN ops.toList 0 ρ ds M rfl h
  rw [Array.length_toList] at this
  rw [List.range_eq_range']
  exact this
end
noncomputable def hval (P : Program) (ops : Array Oper) (o : Oper) (ρ : Env) (M : Mem) : Option Value := match gd ops ρ o.guard with
  | none => none
  | some false => some undef
  | some true => bif quiet P o.op then (match eOp P ρ M o.op with
    | none => none
    | some (v, _) => some v) else none
theorem hval_spec {P : Program} {ops : Array Oper} {o : Oper} {ρ : Env} {M : Mem} {v : Value} (h : hval P ops o ρ M = some v) : HeadOp P ops o ρ M.abs v := by
  intro ρ' hag
  unfold hval at h
  split at h
  · cases h
  · rename_i hg
    simp only [Option.some.injEq] at h
    exact .inr (.inl ⟨gd_spec hg hag, h.symm⟩)
  · rename_i hg
    rw [cond_some] at h
    obtain ⟨hq, h⟩ := h
    split at h
    · cases h
    rename_i u M' hu
    simp only [Option.some.injEq] at h
    subst h
    obtain rfl := quiet_spec hq hu
    refine .inl ⟨gd_spec hg hag, eOp_spec ?_⟩
    rw [eOp_congr (agr_x hag)]; exact hu
noncomputable def heads (P : Program) (ops : Array Oper) (M : Mem) (hs : List Nat) : T Value → Option (T Value) := List.rec (motive := fun _ => T Value → Option (T Value)) (fun ρ => some ρ)
  (fun i _ ih ρ => match ops[i]? with
    | none => none
    | some o => (match hval P ops o (slot ρ) M with
      | none => none
      | some v => doV v fun v => doT (putS ρ o.dst v) fun ρ => ih ρ)) hs
noncomputable def again (P : Program) (ops : Array Oper) (ρ : Env) (M : Mem) (q : List Nat) : Bool := List.rec (motive := fun _ => Bool) true
  (fun i _ ih => match ops[i]? with
    | none => false
    | some o => (match o.dst with
      | none => false
      | some d => (match hval P ops o ρ M with
        | none => false
        | some v => vEq 8 v (ρ d) && ih))) q
theorem again_spec {P : Program} {ops : Array Oper} {ρ : Env} {M : Mem} : ∀ {q : List Nat}, again P ops ρ M q = true → FFl P ops q ρ M.abs
  | [], _ => fun i hi => by simp at hi
  | i :: q, h => by
    have h : (match ops[i]? with
      | none => false
      | some o => (match o.dst with
        | none => false
        | some d => (match hval P ops o ρ M with
          | none => false
          | some v => vEq 8 v (ρ d) && again P ops ρ M q))) = true := h
    split at h
    · cases h
    rename_i o ho
    split at h
    · cases h
    rename_i d hd
    split at h
    · cases h
    rename_i v hvv
    rename_i h
    rw [Bool.and_eq_true] at h
    obtain ⟨ha, hb⟩ := h
    intro j hj o' ho' d' hd'
    rcases List.mem_cons.1 hj with rfl | hj
    · rw [ho] at ho'
      obtain rfl := Option.some.inj ho'
      rw [hd] at hd'
      obtain rfl := Option.some.inj hd'
      rw [← vEq_spec _ _ _ ha]
      exact hval_spec hvv
    · exact again_spec hb j hj o' ho' d' hd'
theorem heads_spec {P : Program} {ops : Array Oper} {M : Mem} : ∀ {hs : List Nat} {ρ ρ' : T Value}, heads P ops M hs ρ = some ρ' → OffL ops hs (slot ρ) (slot ρ')
  | [], ρ, ρ', h => by
    have h : some ρ = some ρ' := h
    simp only [Option.some.injEq] at h
    subst h
    exact fun _ _ => rfl
  | i :: hs, ρ, ρ', h => by
    have h : (match ops[i]? with
      | none => none
      | some o => (match hval P ops o (slot ρ) M with
        | none => none
        | some v => doV v fun v => doT (putS ρ o.dst v) fun ρ => heads P ops M hs ρ)) = some ρ' := h
    split at h
    · cases h
    rename_i o ho
    split at h
    · cases h
    rename_i v hvv
    rw [doV_eq, doT_eq] at h
    have := heads_spec h
    intro t ht
    rw [this t fun j hj => ht j (by simp [hj]), show slot (putS ρ o.dst v) t = ((show Env from slot ρ).put o.dst v) t from congrFun (putS_spec ρ o.dst v) t]
    have e1 : dstOf ops i = o.dst := by simp [dstOf, ho]
    have hne := ht i (by simp)
    rw [e1] at hne
    cases hd : o.dst with
    | none => rfl
    | some d => rw [put_at, if_neg (fun h => hne (by rw [hd, h]))]
noncomputable def tailR (P : Program) (X : Exts) (C : Caller) (ops : Array Oper) (tl : Tl) : T Value → List Deferred → Mem → OpsR := List.rec (motive := fun _ => T Value → List Deferred → Mem → OpsR) (fun ρ ds M => .norm ρ ds M)
  (fun tq _ ih ρ ds M => match ops[tq.1]? with
    | none => .bad
    | some o => (match o.op with
      | .defer _ => .bad
      | _ => op1 P X C ops o ρ ds M fun ρ ds M => (match heads P ops M tq.2.2 ρ with
        | none => .bad
        | some ρ => bif again P ops (slot ρ) M (tq.2.1 ++ tq.2.2) then ih ρ ds M else .bad))) tl
section
variable {P : Program} {X : Exts} {C : Caller} {N : Nat} {ops : Array Oper} {Kn : Env → List Deferred → AW → Prop} {Kp : List PanicEntry → Env → List Deferred → AW → Prop}
theorem tail_spec (hX : ExtOk P X) (hC : CS P C) : ∀ {tl : Tl} {ρ : T Value} {ds : List Deferred} {M : Mem}, (tailR P X C ops tl ρ ds M).holdsX ops Kn Kp → LinT P ops Kn Kp tl (slot ρ) ds M.abs
  | [], ρ, ds, M, h => h
  | (t, q, nh) :: tl, ρ, ds, M, h => by
    have ih := fun {ρ ds M} => tail_spec hX hC (tl := tl) (ρ := ρ) (ds := ds) (M := M)
    have h : OpsR.holdsX ops Kn Kp (match ops[t]? with
      | none => .bad
      | some o => (match o.op with
        | .defer _ => .bad
        | _ => op1 P X C ops o ρ ds M fun ρ ds M => (match heads P ops M nh ρ with
          | none => .bad
          | some ρ => bif again P ops (slot ρ) M (q ++ nh) then tailR P X C ops tl ρ ds M else .bad))) := h
    split at h
    · exact h.elim
    rename_i o ho
    have nx : ∀ {ρ ds M}, OpsR.holdsX ops Kn Kp (match heads P ops M nh ρ with
        | none => .bad
        | some ρ => bif again P ops (slot ρ) M (q ++ nh) then tailR P X C ops tl ρ ds M else .bad) → ∃ ρ2, OffL ops nh (slot ρ) ρ2 ∧ FFl P ops (q ++ nh) ρ2 M.abs ∧ LinT P ops Kn Kp tl ρ2 ds M.abs := by
      intro ρ ds M h
      split at h
      · exact h.elim
      rename_i ρ2 hh
      cases hb : again P ops (slot ρ2) M (q ++ nh) with
      | false => rw [hb] at h; exact h.elim
      | true => rw [hb] at h; exact ⟨_, heads_spec hh, again_spec hb, ih h⟩
    split at h
    · exact h.elim
    rename_i hnd
    refine ⟨o, ho, ?_⟩
    unfold op1 at h
    split at h
    · exact h.elim
    · rename_i hg
      rw [doT_eq] at h
      have := nx h
      rw [slot_put] at this
      exact .skip (fun ρ' hag => gd_spec hg hag) this
    · rename_i hg
      generalize hop : o.op = p at h
      split at h
      · rename_i z xs ts
        have hxx : ∀ ρ', Agr ops o (slot ρ) ρ' → AgreeX P.globals.size (slot ρ) ρ' (z :: xs) := fun ρ' hag => by
          have hx := agr_x (G := P.globals.size) hag
          rw [hop] at hx
          intro y hy
          refine hx y ?_
          simp only [Op.operands, Call.operands]
          rcases List.mem_cons.1 hy with rfl | hy
          · simp
          · simp; exact .inr hy
        split at h
        · split at h
          · exact h.elim
          rename_i v hv
          rw [doV_eq, doT_eq] at h
          have := nx h
          rw [slot_put] at this
          refine .val (fun ρ' hag => ⟨gd_spec hg hag, extR_spec hX hop ?_⟩) this
          rw [extR_congr (ρ := slot ρ) (hxx ρ' hag)]; exact hv
        rename_i g l hc
        rw [doL_eq] at h
        have hcall : ∀ ρ', Agr ops o (slot ρ) ρ' → wants ops o ρ' true ∧ OpC P o ρ' g l := fun ρ' hag => by
          refine ⟨gd_spec hg hag, calls_spec hop ?_⟩
          rw [calls_congr (ρ := slot ρ)]
          · exact hc
          · have hx := agr_x (G := P.globals.size) hag
            rw [hop] at hx
            intro y hy
            refine hx y ?_
            simp only [Op.operands, Call.operands]
            rcases List.mem_cons.1 hy with rfl | hy
            · simp
            · simp; exact .inr hy
        split at h
        · exact h.elim
        · rename_i v M' hr
          rw [doV_eq, doT_eq, doM_eq] at h
          have := nx h
          rw [slot_put] at this
          refine .call hcall (ACalls.mono (hC _ _ _ _ _ hr) fun e aw' he => ?_)
          obtain ⟨rfl, rfl⟩ := he
          exact this
        · rename_i ch M' hr
          refine .call hcall (ACalls.mono (hC _ _ _ _ _ hr) fun e aw' he => ?_)
          obtain ⟨rfl, rfl⟩ := he
          exact h
      · rename_i z xs ts
        exact absurd hop (hnd _)
      · rename_i x
        split at h
        · rename_i u z hx
          refine .panic (fun ρ' hag => ⟨gd_spec hg hag, ?_⟩) h
          have hx' : okv P.globals.size ρ' x = some (.iface u z) := by
            rw [agr_x (G := P.globals.size) hag x (by rw [hop]; simp [Op.operands])]; exact hx
          obtain ⟨x1, x2⟩ := okv_spec hx'
          exact opp_panic hop x1 x2
        · exact h.elim
      · split at h
        · exact h.elim
        rename_i v M' hv'
        rw [doV_eq, doT_eq, doM_eq] at h
        have := nx h
        rw [slot_put] at this
        refine .val (fun ρ' hag => ⟨gd_spec hg hag, eOp_spec ?_⟩) this
        rw [eOp_congr (agr_x hag), hop]; exact hv'
end
end Go.Ri

set_option linter.unusedSimpArgs false
set_option linter.unusedVariables false
set_option linter.unusedSectionVars false
namespace Go.Ri
open Go Go.Am Go.RowKit
variable [SymE]
variable [FT] [FTok]
noncomputable def drawR (P : Program) (X : Exts) (C : Caller) (ops : Array Oper) (hs : List Nat) (tl : Tl) (ρ : T Value) (ds : List Deferred) (M : Mem) : OpsR := match heads P ops M hs ρ with
  | none => .bad
  | some ρ => bif again P ops (slot ρ) M hs then tailR P X C ops tl ρ ds M else .bad
section
variable {P : Program} {X : Exts} {C : Caller} {N : Nat} {ops : Array Oper}
theorem draw_spec (hX : ExtOk P X) (hC : CS P C) (hm : P.follows .mixedOrders = true) (hN : dstsOk N ops = true) {hs : List Nat} {tl : Tl} (hok : linOk ops hs tl = true) {id : Nat} {k : List Item} {R : ADone → Env → List Deferred → AW → Prop} {ρ : T Value} {ds : List Deferred} {M : Mem}
    (h : (drawR P X C ops hs tl ρ ds M).holdsX ops (fun ρ' ds' aw' => AGo P N k ρ' ds' aw' R) (fun ch ρ' ds' aw' => R (.panic ch) ρ' ds' aw')) : AGo P N (.code (.region id ops true) :: k) (slot ρ) ds M.abs R := by
  unfold drawR at h
  split at h
  · exact h.elim
  rename_i ρ' hh
  cases hb : again P ops (slot ρ') M hs with
  | false => rw [hb] at h; exact h.elim
  | true =>
    rw [hb] at h
    exact ago_drawF rfl hm hN hok (heads_spec hh) (again_spec hb) (tail_spec hX hC h)
end
inductive SR where
  | go (todo : List Item) (ρ : T Value) (ds : List Deferred) (M : Mem)
  | fin (d : ADone) (ρ : T Value) (ds : List Deferred) (M : Mem)
  | bad
abbrev Tab := Nat → Option (List Nat × Tl)
def OpsR.sr (k : List Item) (x : OpsR) : SR := match x with
  | .norm ρ ds M => .go k ρ ds M
  | .pan ch ρ ds M => .fin (.panic ch) ρ ds M
  | .bad => .bad
def offB (rs : List Tmp) (ops : Array Oper) : Bool := rs.all fun t => ops.toList.all fun o => o.dst != some t
noncomputable def step1 (P : Program) (X : Exts) (C : Caller) (N : Nat) (tab : Tab) (rs : List Tmp) (todo : List Item) (ρ : T Value) (ds : List Deferred) (M : Mem) : SR := match todo with
  | [] => .fin .ret ρ ds M
  | .code c :: k => (match c with
    | .skip => .go k ρ ds M
    | .seq x y => .go (.code x :: .code y :: k) ρ ds M
    | .label _ => .go k ρ ds M
    | .block id c => .go (.code c :: .inBlock id :: k) ρ ds M
    | .loop c => .go (.code c :: .inLoop c :: k) ρ ds M
    | .scope c => .go (.code c :: .inScope c :: k) ρ ds M
    | .exit id => (match exitTo id k with
      | some k => .go k ρ ds M
      | none => .bad)
    | .goto l => (match gotoIn l k with
      | some k => .go k ρ ds M
      | none => .bad)
    | .cond c x y => (match okv P.globals.size (slot ρ) c with
      | some (.bool true) => .go (.code x :: k) ρ ds M
      | some (.bool false) => .go (.code y :: k) ρ ds M
      | _ => .bad)
    | .ret => .fin .ret ρ ds M
    | .region id ops draw => bif dstsOk N ops then (match draw with
        | false => (ops1 P X C ops ops.toList ρ ds M).sr k
        | true => (match tab id with
          | none => .bad
          | some (hs, tl) => bif linOk ops hs tl then (match drawR P X C ops hs tl ρ ds M with
              | .norm ρ ds M => .go k ρ ds M
              | .pan ch ρ ds M => bif offB rs ops then .fin (.panic ch) ρ ds M else .bad
              | .bad => .bad) else .bad)) else .bad
    | _ => .bad)
  | .inBlock _ :: k => .go k ρ ds M
  | .inLoop c :: k => .go (.code c :: .inLoop c :: k) ρ ds M
  | .inScope _ :: k => .go k ρ ds M
  | _ => .bad
def SR.holds (P : Program) (N : Nat) (rs : List Tmp) (R : ADone → Env → List Deferred → AW → Prop) : SR → Prop
  | .go todo ρ ds M => AGo P N todo (slot ρ) ds M.abs R
  | .fin d ρ ds M => ∀ ρ' : Env, (∀ t ∈ rs, ρ' t = slot ρ t) → R d ρ' ds M.abs
  | .bad => False
section
variable {P : Program} {X : Exts} {C : Caller} {N : Nat} {tab : Tab} {rs : List Tmp} {R : ADone → Env → List Deferred → AW → Prop}
theorem step1_spec (hX : ExtOk P X) (hC : CS P C) (hm : P.follows .mixedOrders = true) {todo : List Item} {ρ : T Value} {ds : List Deferred} {M : Mem} (h : (step1 P X C N tab rs todo ρ ds M).holds P N rs R) : AGo P N todo (slot ρ) ds M.abs R := by
  unfold step1 at h
  split at h
  · exact ago_nil (h _ fun _ _ => rfl)
  · rename_i c k
    split at h
    · exact ago_skip h
    · exact ago_seq h
    · exact ago_label h
    · exact ago_block h
    · exact ago_loop h
    · exact ago_scope h
    · split at h
      · rename_i hk; exact ago_exit hk h
      · exact h.elim
    · split at h
      · rename_i hk; exact ago_goto hk h
      · exact h.elim
    · split at h
      · rename_i hc
        obtain ⟨c1, c2⟩ := okv_spec hc
        exact ago_cond c1 c2 (fun _ => h) (fun h => by cases h)
      · rename_i hc
        obtain ⟨c1, c2⟩ := okv_spec hc
        exact ago_cond c1 c2 (fun h => by cases h) (fun _ => h)
      · exact h.elim
    · exact ago_ret (h _ fun _ _ => rfl)
    · rename_i id ops draw
      cases hN : dstsOk N ops with
      | false => rw [hN] at h; exact h.elim
      | true =>
        rw [hN] at h
        simp only [cond_true] at h
        split at h
        · refine ago_region rfl (region_spec hX hC hN ?_)
          generalize ops1 P X C ops ops.toList ρ ds M = x at h
          cases x with
          | norm ρ ds M => exact h
          | pan ch ρ ds M => exact h _ fun _ _ => rfl
          | bad => exact h
        · split at h
          · exact h.elim
          rename_i hs tl ht
          cases hb : linOk ops hs tl with
          | false => rw [hb] at h; exact h.elim
          | true =>
            rw [hb] at h
            simp only [cond_true] at h
            refine draw_spec hX hC hm hN hb ?_
            generalize drawR P X C ops hs tl ρ ds M = x at h
            cases x with
            | norm ρ ds M => exact h
            | pan ch ρ ds M =>
              cases ho : offB rs ops with
              | false => simp only [ho, cond_false] at h; exact h.elim
              | true =>
                simp only [ho, cond_true] at h
                intro ρ' hoff
                refine h ρ' fun t ht => hoff t fun j hj => ?_
                simp only [offB, List.all_eq_true] at ho
                have hd := ho t ht
                unfold dstOf at hj
                cases hoj : ops[j]? with
                | none => rw [hoj] at hj; cases hj
                | some o =>
                  rw [hoj] at hj
                  have := hd o (by rw [Array.mem_toList_iff]; exact Array.mem_of_getElem? hoj)
                  simp only [Option.bind_some] at hj
                  rw [hj] at this
                  simp at this
            | bad => exact h.elim
    · exact h.elim
  · exact ago_inBlock h
  · exact ago_inLoop h
  · exact ago_inScope h
  · exact h.elim
noncomputable def iter (f : List Item → T Value → List Deferred → Mem → SR) (n : Nat) : List Item → T Value → List Deferred → Mem → SR := Nat.rec (motive := fun _ => List Item → T Value → List Deferred → Mem → SR) f
  (fun _ ih a b c d => SR.rec (motive := fun _ => SR) (fun a b c d => ih a b c d) (fun d ρ ds M => .fin d ρ ds M) .bad (ih a b c d)) n
theorem iter_spec {f : List Item → T Value → List Deferred → Mem → SR} (hf : ∀ todo ρ ds M, (f todo ρ ds M).holds P N rs R → AGo P N todo (slot ρ) ds M.abs R) : ∀ (n : Nat) (todo : List Item) (ρ : T Value) (ds : List Deferred) (M : Mem),
    (iter f n todo ρ ds M).holds P N rs R → AGo P N todo (slot ρ) ds M.abs R
  | 0, todo, ρ, ds, M, h => hf _ _ _ _ h
  | n + 1, todo, ρ, ds, M, h => by
    have h : (SR.rec (motive := fun _ => SR) (fun a b c d => iter f n a b c d) (fun d ρ ds M => .fin d ρ ds M) .bad (iter f n todo ρ ds M) : SR).holds P N rs R := h
    refine iter_spec hf n _ _ _ _ ?_
    cases hx : iter f n todo ρ ds M with
    | go a b c d =>
      rw [hx] at h
      exact iter_spec hf n _ _ _ _ h
    | fin d ρ' ds' M' => rw [hx] at h; exact h
    | bad => rw [hx] at h; exact h
end
noncomputable def res1 (P : Program) (ρ : Env) (M : Mem) : ResultVar → Option Value
  | .tmp t => some (ρ t)
  | .cell a t => (match ρ a with
    | .pointer (some ⟨b, i, none⟩) => (match P.underlying t with
      | none => none
      | some d => bif aggT d then (match (P.info? t).map (·.size) with
          | none => none
          | some n => (match M.getN b i n with
            | none => none
            | some l => some (.agg ⟨l⟩)))
        else M.get b i)
    | _ => none)
theorem res1_spec {P : Program} {ρ : Env} {M : Mem} {r : ResultVar} {v : Value} (h : res1 P ρ M r = some v) : OneR P ρ M.abs r v := by
  cases r with
  | tmp t => simp only [res1, Option.some.injEq] at h; exact oneT h
  | cell a t =>
    simp only [res1] at h
    split at h
    · rename_i b i ha
      split at h
      · cases h
      rename_i d hu
      cases hag : aggT d with
      | true =>
        rw [hag] at h
        simp only [cond_true] at h
        split at h
        · cases h
        rename_i n hn
        split at h
        · cases h
        rename_i l hl
        simp only [Option.some.injEq] at h; subst h
        exact oneN ha rfl hu hag hn (M.getN_spec hl)
      | false =>
        rw [hag] at h
        simp only [cond_false] at h
        exact one1 ha rfl hu hag (M.get_spec h)
    · cases h
def rSlot : ResultVar → Tmp
  | .tmp t => t
  | .cell a _ => a
theorem res1_congr {P : Program} {ρ ρ' : Env} {M : Mem} {r : ResultVar} (h : ρ' (rSlot r) = ρ (rSlot r)) : res1 P ρ' M r = res1 P ρ M r := by
  cases r with
  | tmp t => simp only [res1, rSlot] at h ⊢; rw [h]
  | cell a t => simp only [res1, rSlot] at h ⊢; rw [h]
noncomputable def resF (P : Program) (fn : Func) (ρ : Env) (M : Mem) : Option Value := match fn.results with
  | ⟨[]⟩ => some (.tuple ⟨[]⟩)
  | ⟨[a]⟩ => res1 P ρ M a
  | ⟨[a, b]⟩ => (match res1 P ρ M a, res1 P ρ M b with
    | some u, some v => some (.tuple ⟨[u, v]⟩)
    | _, _ => none)
  | ⟨[a, b, c]⟩ => (match res1 P ρ M a, res1 P ρ M b, res1 P ρ M c with
    | some u, some v, some w => some (.tuple ⟨[u, v, w]⟩)
    | _, _, _ => none)
  | ⟨[a, b, c, d]⟩ => (match res1 P ρ M a, res1 P ρ M b, res1 P ρ M c, res1 P ρ M d with
    | some u, some v, some w, some x => some (.tuple ⟨[u, v, w, x]⟩)
    | _, _, _, _ => none)
  | _ => none
def rSlots (fn : Func) : List Tmp := fn.results.toList.map rSlot
theorem resF_spec {P : Program} {fn : Func} {N : Nat} {ρ ρ' : Env} {M : Mem} {v : Value} (h : resF P fn ρ M = some v) (hr : ∀ t ∈ rSlots fn, ρ' t = ρ t) : ARes P fn N ρ' M.abs v := by
  unfold resF at h
  have one : ∀ r u, r ∈ fn.results.toList → res1 P ρ M r = some u → OneR P ρ' M.abs r u := fun r u hm hu => by
    refine res1_spec ?_
    rw [res1_congr (ρ := ρ) (hr _ (List.mem_map.2 ⟨r, hm, rfl⟩))]
    exact hu
  split at h
  · rename_i hf
    simp only [Option.some.injEq] at h; subst h
    exact ares_0 hf
  · rename_i a hf
    exact ares_1 hf (one a _ (by rw [hf]; simp) h)
  · rename_i a b hf
    split at h
    · rename_i u w h1 h2
      simp only [Option.some.injEq] at h; subst h
      exact ares_2 hf (one a _ (by rw [hf]; simp) h1) (one b _ (by rw [hf]; simp) h2)
    · cases h
  · rename_i a b c hf
    split at h
    · rename_i u w x h1 h2 h3
      simp only [Option.some.injEq] at h; subst h
      exact ares_3 hf (one a _ (by rw [hf]; simp) h1) (one b _ (by rw [hf]; simp) h2) (one c _ (by rw [hf]; simp) h3)
    · cases h
  · rename_i a b c d hf
    split at h
    · rename_i u w x y h1 h2 h3 h4
      simp only [Option.some.injEq] at h; subst h
      exact ares_4 hf (one a _ (by rw [hf]; simp) h1) (one b _ (by rw [hf]; simp) h2) (one c _ (by rw [hf]; simp) h3) (one d _ (by rw [hf]; simp) h4)
    · cases h
  · cases h
abbrev CallerD := FuncId → List Value → ADone → Mem → Option (AEnd × ADone × Mem)
def CDS (P : Program) (D : CallerD) : Prop := ∀ f args u M e u' M', D f args u M = some (e, u', M') → ACallsD P f args u M.abs fun e' u'' aw' => e' = e ∧ u'' = u' ∧ aw' = M'.abs
noncomputable def leave (P : Program) (fn : Func) (D : CallerD) (ρ : T Value) (ds : List Deferred) : ADone → Mem → Option (AEnd × Mem) := List.rec (motive := fun _ => ADone → Mem → Option (AEnd × Mem))
  (fun u M => match u with
    | .ret => (match resF P fn (slot ρ) M with
      | some v => some (.returned v, M)
      | none => none)
    | .panic ch => some (.panicked ch, M))
  (fun d _ ih u M => match d.target with
    | .fn (.func g) ⟨cap⟩ => bif fnOk P g then (match D g (d.args.toList ++ cap) u M with
      | some (.returned _, u', M') => ih (asettle u') M'
      | some (.panicked ch, u', M') => ih (araised u' ch) M'
      | none => none) else none
    | _ => none) ds
theorem leave_spec {P : Program} {fn : Func} {D : CallerD} {N : Nat} (hD : CDS P D) {ρ : T Value} {ρ' : Env} (hr : ∀ t ∈ rSlots fn, ρ' t = slot ρ t) {e : AEnd} {M' : Mem} : ∀ {ds : List Deferred} {u : ADone} {M : Mem}, leave P fn D ρ ds u M = some (e, M') →
    ALeaves P fn N ρ' (fun e' aw' => e' = e ∧ aw' = M'.abs) ds u M.abs
  | [], .ret, M, h => by
    have h : (match resF P fn (slot ρ) M with
      | some v => some (AEnd.returned v, M)
      | none => none) = some (e, M') := h
    split at h
    · rename_i v hv
      simp only [Option.some.injEq, Prod.mk.injEq] at h
      obtain ⟨rfl, rfl⟩ := h
      exact ⟨v, resF_spec hv hr, rfl, rfl⟩
    · cases h
  | [], .panic ch, M, h => by
    have h : some (AEnd.panicked ch, M) = some (e, M') := h
    simp only [Option.some.injEq, Prod.mk.injEq] at h
    obtain ⟨rfl, rfl⟩ := h
    exact ⟨rfl, rfl⟩
  | d :: ds, u, M, h => by
    have ih := fun {u M} => leave_spec (N := N) hD hr (e := e) (M' := M') (ds := ds) (u := u) (M := M)
    have h : (match d.target with
      | .fn (.func g) ⟨cap⟩ => bif fnOk P g then (match D g (d.args.toList ++ cap) u M with
        | some (.returned _, u', M') => leave P fn D ρ ds (asettle u') M'
        | some (.panicked ch, u', M') => leave P fn D ρ ds (araised u' ch) M'
        | none => none) else none
      | _ => none) = some (e, M') := h
    split at h
    · rename_i g cap htar
      rw [cond_some] at h
      obtain ⟨hf, h⟩ := h
      obtain ⟨fn', c, f1, f2, f3⟩ := fnOk_spec hf
      refine ⟨g, ⟨cap⟩, htar, ⟨fn', c, f1, f2, f3⟩, ?_⟩
      split at h
      · rename_i v u' M2 hd
        refine ACallsD.mono (hD _ _ _ _ _ _ _ hd) fun e' u'' aw' hh => ?_
        obtain ⟨rfl, rfl, rfl⟩ := hh
        exact ih h
      · rename_i ch u' M2 hd
        refine ACallsD.mono (hD _ _ _ _ _ _ _ hd) fun e' u'' aw' hh => ?_
        obtain ⟨rfl, rfl, rfl⟩ := hh
        exact ih h
      · cases h
    · cases h
noncomputable def sil (n : Nat) : List Item → List Item := Nat.rec (motive := fun _ => List Item → List Item) (fun l => l) (fun _ ih l => match l with
  | .code (.seq x y) :: k => ih (.code x :: .code y :: k)
  | .code (.block id c) :: k => ih (.code c :: .inBlock id :: k)
  | .code (.scope c) :: k => ih (.code c :: .inScope c :: k)
  | .code .skip :: k => ih k
  | l => l) n
theorem sil_spec : ∀ (n : Nat) (l : List Item), Silent l (sil n l)
  | 0, l => .refl l
  | n + 1, l => by
    have ih := sil_spec n
    show Silent l (match l with
      | .code (.seq x y) :: k => sil n (.code x :: .code y :: k)
      | .code (.block id c) :: k => sil n (.code c :: .inBlock id :: k)
      | .code (.scope c) :: k => sil n (.code c :: .inScope c :: k)
      | .code .skip :: k => sil n k
      | l => l)
    split
    · exact .seq (ih _)
    · exact .block (ih _)
    · exact .scope (ih _)
    · exact .skip (ih _)
    · exact .refl _
noncomputable def endD (P : Program) (fn : Func) (u : ADone) (x : SR) : Option (AEnd × ADone × Mem) := match x with
  | .fin .ret ρ [] M => (match resF P fn (slot ρ) M with
    | some v => some (.returned v, u, M)
    | none => none)
  | .fin (.panic ch) _ [] M => some (.panicked ch, u, M)
  | _ => none
noncomputable def callD (P : Program) (X : Exts) (C : Caller) (tab : Nat → Tab) (n : Nat) : CallerD := fun f args u M => match P.funcs[f]? with
  | none => none
  | some fn => (match fn.body with
    | none => none
    | some c => bif Nat.ble args.length fn.ntmps then (match sil 40 [.code c] with
      | .code (.region id ops false) :: k => (match ops with
        | ⟨o :: rest⟩ => (match o with
          | ⟨dst, .call ⟨.builtin .recover, ⟨[]⟩, _⟩, _, _, _, none⟩ => bif dstsOk fn.ntmps ops then
              doV (recovers u).1 fun v => doT (putS (T.ofL args 0 .leaf) dst v) fun ρ => (match ops1 P X C ops rest ρ [] M with
                | .norm ρ ds M => endD P fn (recovers u).2 (iter (step1 P X C fn.ntmps (tab f) (rSlots fn)) n k ρ ds M)
                | .pan ch ρ ds M => endD P fn (recovers u).2 (.fin (.panic ch) ρ ds M)
                | .bad => none) else none
          | _ => endD P fn u (iter (step1 P X C fn.ntmps (tab f) (rSlots fn)) n [.code c] (T.ofL args 0 .leaf) [] M))
        | ⟨[]⟩ => endD P fn u (iter (step1 P X C fn.ntmps (tab f) (rSlots fn)) n [.code c] (T.ofL args 0 .leaf) [] M))
      | _ => endD P fn u (iter (step1 P X C fn.ntmps (tab f) (rSlots fn)) n [.code c] (T.ofL args 0 .leaf) [] M)) else none)
theorem slot_init (args : List Value) : slot (T.ofL args 0 .leaf) = Env.init args := by
  funext t
  simp only [slot, T.get_ofL, Env.init]
  by_cases h : t < args.length
  · rw [if_pos ⟨Nat.zero_le _, by omega⟩]
    simp [List.getD, h]
  · rw [if_neg (by omega)]
    simp [List.getD, List.getElem?_eq_none (Nat.le_of_not_lt h), T.get_leaf]
theorem endD_spec {P : Program} {fn : Func} {N : Nat} {u : ADone} {x : SR} {e : AEnd} {u' : ADone} {M' : Mem} (h : endD P fn u x = some (e, u', M')) : u' = u ∧
    x.holds P N (rSlots fn) (fun d ρ ds aw' => ds = [] ∧ match d with
      | .ret => ∃ v, ARes P fn N ρ aw' v ∧ (AEnd.returned v = e ∧ aw' = M'.abs)
      | .panic ch => AEnd.panicked ch = e ∧ aw' = M'.abs) := by
  unfold endD at h
  split at h
  · split at h
    · rename_i v hv
      simp only [Option.some.injEq, Prod.mk.injEq] at h
      obtain ⟨rfl, rfl, rfl⟩ := h
      exact ⟨rfl, fun ρ' hr => ⟨rfl, v, resF_spec hv hr, rfl, rfl⟩⟩
    · cases h
  · simp only [Option.some.injEq, Prod.mk.injEq] at h
    obtain ⟨rfl, rfl, rfl⟩ := h
    exact ⟨rfl, fun ρ' hr => ⟨rfl, rfl, rfl⟩⟩
  · cases h
theorem callD_spec {P : Program} {X : Exts} {C : Caller} {tab : Nat → Tab} {n : Nat} (hX : ExtOk P X) (hC : CS P C) (hm : P.follows .mixedOrders = true) : CDS P (callD P X C tab n) := by
  intro f args u M e u' M' h
  unfold callD at h
  split at h
  · cases h
  rename_i fn hf
  split at h
  · cases h
  rename_i c hb
  rw [cond_some] at h
  obtain ⟨hl, h⟩ := h
  have hl := Nat.le_of_ble_eq_true hl
  have plainD : endD P fn u (iter (step1 P X C fn.ntmps (tab f) (rSlots fn)) n [.code c] (T.ofL args 0 .leaf) [] M) = some (e, u', M') → ACallsD P f args u M.abs fun e' u'' aw' => e' = e ∧ u'' = u' ∧ aw' = M'.abs := by
    intro h
    obtain ⟨rfl, hx⟩ := endD_spec (N := fn.ntmps) h
    refine acallsD_of_ago hf hb rfl hl ?_
    have := iter_spec (fun todo ρ ds M h => step1_spec hX hC hm h) n _ _ _ _ hx
    rw [slot_init] at this
    refine ago_mono ?_ this
    rintro d ρ ds aw ⟨h1, h2⟩
    refine ⟨h1, ?_⟩
    cases d with
    | ret => obtain ⟨v, k1, k2, k3⟩ := h2; exact ⟨v, k1, k2, rfl, k3⟩
    | panic ch => exact ⟨h2.1, rfl, h2.2⟩
  split at h
  · rename_i id ops k hsil
    split at h
    · rename_i o rest
      split at h
      · rename_i dst at' ty pos after
        rw [cond_some] at h
        obtain ⟨hN, h⟩ := h
        rw [doV_eq, doT_eq] at h
        have hs := sil_spec 40 [.code c]
        rw [hsil] at hs
        have hu : ∀ {x : SR}, endD P fn (recovers u).2 x = some (e, u', M') → u' = (recovers u).2 := fun h => (endD_spec (N := fn.ntmps) h).1
        refine acallsD_recover (o := ⟨dst, .call ⟨.builtin .recover, ⟨[]⟩, at'⟩, ty, pos, after, none⟩) (rest := List.range' 1 rest.length) hf hb rfl hl hs ?_ rfl rfl rfl ?_ ?_
        · rw [List.range_eq_range']
          simp only [List.size_toArray, List.length_cons]
          rfl
        · intro d hd
          exact dstsOk_get (N := fn.ntmps) hN (j := 0) (by simpa using hd)
        · refine ago_inRegion ?_
          rw [← slot_init, ← slot_put]
          refine ops1_spec hX hC hN rest 1 _ _ _ rfl ?_
          split at h
          · rename_i ρ2 ds2 M2 hx
            rw [hx]
            obtain ⟨rfl, hh⟩ := endD_spec (N := fn.ntmps) h
            have := iter_spec (fun todo ρ ds M h => step1_spec hX hC hm h) n _ _ _ _ hh
            refine ago_mono ?_ this
            rintro d ρ ds aw ⟨h1, h2⟩
            refine ⟨h1, ?_⟩
            cases d with
            | ret => obtain ⟨v, k1, k2, k3⟩ := h2; exact ⟨v, k1, k2, rfl, k3⟩
            | panic ch => exact ⟨h2.1, rfl, h2.2⟩
          · rename_i ch ρ2 ds2 M2 hx
            rw [hx]
            obtain ⟨rfl, hh⟩ := endD_spec (N := fn.ntmps) h
            obtain ⟨h1, h2⟩ := hh _ fun _ _ => rfl
            exact ⟨h1, h2.1, rfl, h2.2⟩
          · cases h
      · exact plainD h
    · exact plainD h
  · exact plainD h
where
  ago_mono {P : Program} {N : Nat} {todo : List Item} {ρ : Env} {ds : List Deferred} {aw : AW} {R R' : ADone → Env → List Deferred → AW → Prop} (hr : ∀ d ρ ds aw, R d ρ ds aw → R' d ρ ds aw) (h : AGo P N todo ρ ds aw R) : AGo P N todo ρ ds aw R' := by
    intro base w0 s a w b cs hst
    obtain ⟨m, t', a', w', h1, s', d, ρ', ds', aw', h2, h3, h4, h5⟩ := h base w0 s a w b cs hst
    exact ⟨m, t', a', w', h1, s', d, ρ', ds', aw', h2, h3, h4, hr _ _ _ _ h5⟩
noncomputable def callOne (P : Program) (X : Exts) (tab : Nat → Tab) (n : Nat) (C : Caller) : Caller := fun f args M => match P.funcs[f]? with
  | none => none
  | some fn => (match fn.body with
    | none => none
    | some c => bif Nat.ble args.length fn.ntmps then (match iter (step1 P X C fn.ntmps (tab f) (rSlots fn)) n [.code c] (T.ofL args 0 .leaf) [] M with
      | .fin d ρ ds M => leave P fn (callD P X C tab n) ρ ds d M
      | _ => none) else none)
theorem callOne_spec {P : Program} {X : Exts} {C : Caller} {tab : Nat → Tab} {n : Nat} (hX : ExtOk P X) (hC : CS P C) (hm : P.follows .mixedOrders = true) : CS P (callOne P X tab n C) := by
  intro f args M e M' h
  unfold callOne at h
  split at h
  · cases h
  rename_i fn hf
  split at h
  · cases h
  rename_i c hb
  rw [cond_some] at h
  obtain ⟨hl, h⟩ := h
  have hl := Nat.le_of_ble_eq_true hl
  split at h
  · rename_i d ρ ds M2 hx
    refine acalls_of_ago_d hf hb rfl hl ?_
    rw [← slot_init]
    refine iter_spec (rs := rSlots fn) (f := step1 P X C fn.ntmps (tab f) (rSlots fn)) (fun todo ρ ds M h => step1_spec hX hC hm h) n _ _ _ _ ?_
    rw [hx]
    intro ρ' hr
    exact leave_spec (callD_spec hX hC hm) hr h
  · cases h
noncomputable def callN (P : Program) (X : Exts) (tab : Nat → Tab) (n : Nat) (d : Nat) : Caller := Nat.rec (motive := fun _ => Caller) (fun _ _ _ => none) (fun _ ih => callOne P X tab n ih) d
theorem callN_spec {P : Program} {X : Exts} {tab : Nat → Tab} {n : Nat} (hX : ExtOk P X) (hm : P.follows .mixedOrders = true) : ∀ d, CS P (callN P X tab n d)
  | 0 => fun _ _ _ _ _ h => by cases h
  | d + 1 => callOne_spec hX (callN_spec hX hm d) hm
end Go.Ri

set_option linter.unusedSimpArgs false
set_option linter.unusedVariables false
set_option linter.unusedSectionVars false
namespace Go.Ri
open Go Go.Am Go.RowKit
variable [SymE] [FT] [FTok]
structure Bx (α : Type) where
  f : α
noncomputable def stV (P : Program) : Op → Bx (T Value → Mem → OR)
  | .move x => ⟨fun ρ M => eMove P (slot ρ) M x⟩
  | .assign x => ⟨fun ρ M => eMove P (slot ρ) M x⟩
  | .pick a b c => ⟨fun ρ M => ePick P (slot ρ) M a b c⟩
  | .alloc t => ⟨fun ρ M => eAlloc P M t⟩
  | .box t x => ⟨fun ρ M => eBox P (slot ρ) M t x⟩
  | .build t ps => ⟨fun ρ M => eBuild P (slot ρ) M t ps⟩
  | .buildSlice t n ps => ⟨fun ρ M => eBuildS P (slot ρ) M t n ps⟩
  | .load t x => ⟨fun ρ M => eLoad P (slot ρ) M t x⟩
  | .store t x y => ⟨fun ρ M => eStore P (slot ρ) M t x y⟩
  | .nilCheck x => ⟨fun ρ M => eNil P (slot ρ) M x⟩
  | .binOp op xt x y _ => ⟨fun ρ M => eBin P (slot ρ) M op xt x y⟩
  | .unOp op _ x => ⟨fun ρ M => eUn P (slot ρ) M op x⟩
  | .convert s d x => ⟨fun ρ M => eConv P (slot ρ) M s d x⟩
  | .makeInterface xt x => ⟨fun ρ M => eMkI P (slot ρ) M xt x⟩
  | .makeFunc fn a c => ⟨fun ρ M => eMkF P (slot ρ) M fn a c⟩
  | .makeSlice t x y => ⟨fun ρ M => eMake P (slot ρ) M t x y⟩
  | .slice t x l h m => ⟨fun ρ M => eSlice P (slot ρ) M t x l h m⟩
  | .fieldAddr t x n => ⟨fun ρ M => eFldA P (slot ρ) M t x n⟩
  | .field t x n => ⟨fun ρ M => eField P (slot ρ) M t x n⟩
  | .indexAddr t x y => ⟨fun ρ M => eIxA P (slot ρ) M t x y⟩
  | .index t x y => ⟨fun ρ M => eIx P (slot ρ) M t x y⟩
  | .typeAssert x _ a ok => ⟨fun ρ M => eAssert P (slot ρ) M x a ok⟩
  | .extract x i => ⟨fun ρ M => eExtract P (slot ρ) M x i⟩
  | .call ⟨.builtin .len, ⟨[x]⟩, ⟨ts⟩⟩ => ⟨fun ρ M => eLen P (slot ρ) M ⟨ts⟩ x⟩
  | .call ⟨.builtin .append, ⟨[x, y]⟩, ⟨[sT, xT]⟩⟩ => ⟨fun ρ M => match eAppend P (slot ρ) M sT xT x y with | some r => some r | none => eAppendZ P (slot ρ) M sT xT x y⟩
  | .call ⟨.builtin .copy, ⟨[x, y]⟩, ⟨[sT, xT]⟩⟩ => ⟨fun ρ M => eCopy P (slot ρ) M sT xT x y⟩
  | op => ⟨fun ρ M => eOp P (slot ρ) M op⟩
theorem stV_eq (P : Program) (op : Op) (ρ : T Value) (M : Mem) : (stV P op).f ρ M = eOp P (slot ρ) M op := by
  unfold stV
  split <;> rfl
inductive Fk where
  | no
  | num
  | ptr
  | full
def fkOf : Op → Fk
  | .move _ | .assign _ | .load _ _ | .nilCheck _ | .extract _ _ | .alloc _ | .store _ _ _ | .field _ _ _ | .makeInterface _ _ | .makeFunc _ _ _ | .typeAssert _ _ _ _ | .pick _ _ _ => .no
  | .binOp .eql _ _ _ _ | .binOp .neq _ _ _ _ | .binOp .lss _ _ _ _ | .binOp .leq _ _ _ _ | .binOp .gtr _ _ _ _ | .binOp .geq _ _ _ _ | .unOp .not _ _ => .no
  | .binOp .sub _ _ _ _ | .binOp .mul _ _ _ _ | .call ⟨.builtin .len, _, _⟩ => .num
  | .fieldAddr _ _ _ | .indexAddr _ _ _ => .ptr
  | _ => .full
noncomputable def doNum {R : Type} (v : Value) (k : Value → R) : R := match v with
  | .int q n => doI n fun n => k (.int q n)
  | v => k v
theorem doNum_eq {R : Type} (v : Value) (k : Value → R) : doNum v k = k v := by
  unfold doNum
  split
  · rw [doI_eq]
  · rfl
noncomputable def doPtr {R : Type} (v : Value) (k : Value → R) : R := match v with
  | .pointer (some ⟨b, o, q⟩) => doN o fun o => k (.pointer (some ⟨b, o, q⟩))
  | v => k v
theorem doPtr_eq {R : Type} (v : Value) (k : Value → R) : doPtr v k = k v := by
  unfold doPtr
  split
  · rw [doN_eq]
  · rfl
noncomputable def doF {R : Type} (q : Fk) (v : Value) (k : Value → R) : R := match q with
  | .no => k v
  | .num => doNum v k
  | .ptr => doPtr v k
  | .full => doV v k
theorem doF_eq {R : Type} (q : Fk) (v : Value) (k : Value → R) : doF q v k = k v := by
  cases q
  · rfl
  · exact doNum_eq v k
  · exact doPtr_eq v k
  · exact doV_eq v k
section
variable {R : Type}
variable (R) in
noncomputable def pC : Cx (Value → R → (Nat → Nat → R) → R) := ⟨fun v e k => @Value.rec (fun _ => R → (Nat → Nat → R) → R) (fun _ => R → (Nat → Nat → R) → R) (fun _ => R → (Nat → Nat → R) → R) (fun _ e _ => e) (fun _ _ e _ => e) (fun _ _ e _ => e) (fun _ _ _ e _ => e) (fun _ e _ => e) (fun a e k => Option.rec (motive := fun _ => R → (Nat → Nat → R) → R) (fun e k => e) (fun a e k => Addr.rec (motive := fun _ => R → (Nat → Nat → R) → R) (fun b o s e k => Option.rec (motive := fun _ => Nat → Nat → R → (Nat → Nat → R) → R) (fun b o e k => k b o) (fun _ _ _ e k => e) s b o e k) a e k) a e k) (fun _ _ _ e _ => e) (fun _ e _ => e) (fun _ e _ => e) (fun _ _ _ _ _ e _ => e) (fun e _ => e) (fun _ _ _ e _ => e) (fun e _ => e) (fun _ _ e _ => e) (fun _ _ e _ => e) (fun _ _ e _ => e) (fun e _ => e) (fun _ _ _ _ e _ => e) v e k⟩
theorem pC_eq (v : Value) (e : R) (k : Nat → Nat → R) : (pC R).f v e k = match v with | .pointer (some ⟨b, i, none⟩) => k b i | _ => e := by
  rcases v with _ | _ | _ | _ | _ | a | _ | _ | _ | _ | _ | _ | _ | _ | _ <;> try rfl
  rcases a with _ | ⟨b, o, _ | s⟩ <;> rfl
variable (R) in
noncomputable def natC : Cx (Value → R → (Nat → R) → R) := ⟨fun v e k => @Value.rec (fun _ => R → (Nat → R) → R) (fun _ => R → (Nat → R) → R) (fun _ => R → (Nat → R) → R) (fun _ e _ => e) (fun _ n e k => Int.rec (motive := fun _ => R → (Nat → R) → R) (fun j _ k => k j) (fun _ e _ => e) n e k) (fun _ _ e _ => e) (fun _ _ _ e _ => e) (fun _ e _ => e) (fun _ e _ => e) (fun _ _ _ e _ => e) (fun _ e _ => e) (fun _ e _ => e) (fun _ _ _ _ _ e _ => e) (fun e _ => e) (fun _ _ _ e _ => e) (fun e _ => e) (fun _ _ e _ => e) (fun _ _ e _ => e) (fun _ _ e _ => e) (fun e _ => e) (fun _ _ _ _ e _ => e) v e k⟩
theorem natC_eq (v : Value) (e : R) (k : Nat → R) : (natC R).f v e k = match v with | .int _ (.ofNat j) => k j | _ => e := by
  rcases v with _ | ⟨q, n⟩ | _ | _ | _ | _ | _ | _ | _ | _ | _ | _ | _ | _ | _ <;> try rfl
  rcases n with j | j <;> rfl
variable (R) in
noncomputable def sliC : Cx (Value → R → (Nat → Nat → Nat → R) → R) := ⟨fun v e k => @Value.rec (fun _ => R → (Nat → Nat → Nat → R) → R) (fun _ => R → (Nat → Nat → Nat → R) → R) (fun _ => R → (Nat → Nat → Nat → R) → R) (fun _ e _ => e) (fun _ _ e _ => e) (fun _ _ e _ => e) (fun _ _ _ e _ => e) (fun _ e _ => e) (fun _ e _ => e) (fun a l _ e k => Option.rec (motive := fun _ => Nat → R → (Nat → Nat → Nat → R) → R) (fun _ e _ => e) (fun a l e k => Addr.rec (motive := fun _ => Nat → R → (Nat → Nat → Nat → R) → R) (fun b o s l e k => Option.rec (motive := fun _ => Nat → Nat → Nat → R → (Nat → Nat → Nat → R) → R) (fun b o l _ k => k b o l) (fun _ _ _ _ e _ => e) s b o l e k) a l e k) a l e k) (fun _ e _ => e) (fun _ e _ => e) (fun _ _ _ _ _ e _ => e) (fun e _ => e) (fun _ _ _ e _ => e) (fun e _ => e) (fun _ _ e _ => e) (fun _ _ e _ => e) (fun _ _ e _ => e) (fun e _ => e) (fun _ _ _ _ e _ => e) v e k⟩
theorem sliC_eq (v : Value) (e : R) (k : Nat → Nat → Nat → R) : (sliC R).f v e k = match v with | .slice (some ⟨b, i, none⟩) l _ => k b i l | _ => e := by
  rcases v with _ | _ | _ | _ | _ | _ | ⟨a, l, c⟩ | _ | _ | _ | _ | _ | _ | _ | _ <;> try rfl
  rcases a with _ | ⟨b, o, _ | s⟩ <;> rfl
variable (R) in
noncomputable def booC : Cx (Value → R → R → R → R) := ⟨fun v e p q => @Value.rec (fun _ => R → R → R → R) (fun _ => R → R → R → R) (fun _ => R → R → R → R) (fun b _ p q => Bool.rec (motive := fun _ => R → R → R) (fun p _ => p) (fun _ q => q) b p q) (fun _ _ e _ _ => e) (fun _ _ e _ _ => e) (fun _ _ _ e _ _ => e) (fun _ e _ _ => e) (fun _ e _ _ => e) (fun _ _ _ e _ _ => e) (fun _ e _ _ => e) (fun _ e _ _ => e) (fun _ _ _ _ _ e _ _ => e) (fun e _ _ => e) (fun _ _ _ e _ _ => e) (fun e _ _ => e) (fun _ _ e _ _ => e) (fun _ _ e _ _ => e) (fun _ _ e _ _ => e) (fun e _ _ => e) (fun _ _ _ _ e _ _ => e) v e p q⟩
theorem booC_eq (v : Value) (e p q : R) : (booC R).f v e p q = match v with | .bool false => p | .bool true => q | _ => e := by
  rcases v with b | _ | _ | _ | _ | _ | _ | _ | _ | _ | _ | _ | _ | _ | _ <;> try rfl
  cases b <;> rfl
variable (R) in
noncomputable def tupC : Cx (Value → R → (List Value → R) → R) := ⟨fun v e k => @Value.rec (fun _ => R → (List Value → R) → R) (fun _ => R → (List Value → R) → R) (fun _ => R → (List Value → R) → R) (fun _ e _ => e) (fun _ _ e _ => e) (fun _ _ e _ => e) (fun _ _ _ e _ => e) (fun _ e _ => e) (fun _ e _ => e) (fun _ _ _ e _ => e) (fun _ e _ => e) (fun _ e _ => e) (fun _ _ _ _ _ e _ => e) (fun e _ => e) (fun _ _ _ e _ => e) (fun e _ => e) (fun _ _ e _ => e) (fun a _ _ k => Array.rec (motive := fun _ => (List Value → R) → R) (fun l k => k l) a k) (fun _ _ e _ => e) (fun e _ => e) (fun _ _ _ _ e _ => e) v e k⟩
theorem tupC_eq (v : Value) (e : R) (k : List Value → R) : (tupC R).f v e k = match v with | .tuple ⟨l⟩ => k l | _ => e := by
  rcases v with _ | _ | _ | _ | _ | _ | _ | _ | _ | _ | _ | _ | _ | _ | ⟨l⟩ <;> rfl
variable (R) in
noncomputable def aggC : Cx (Value → R → (List Value → R) → R) := ⟨fun v e k => @Value.rec (fun _ => R → (List Value → R) → R) (fun _ => R → (List Value → R) → R) (fun _ => R → (List Value → R) → R) (fun _ e _ => e) (fun _ _ e _ => e) (fun _ _ e _ => e) (fun _ _ _ e _ => e) (fun _ e _ => e) (fun _ e _ => e) (fun _ _ _ e _ => e) (fun _ e _ => e) (fun _ e _ => e) (fun _ _ _ _ _ e _ => e) (fun e _ => e) (fun _ _ _ e _ => e) (fun e _ => e) (fun a _ _ k => Array.rec (motive := fun _ => (List Value → R) → R) (fun l k => k l) a k) (fun _ _ e _ => e) (fun _ _ e _ => e) (fun e _ => e) (fun _ _ _ _ e _ => e) v e k⟩
theorem aggC_eq (v : Value) (e : R) (k : List Value → R) : (aggC R).f v e k = match v with | .agg ⟨l⟩ => k l | _ => e := by
  rcases v with _ | _ | _ | _ | _ | _ | _ | _ | _ | _ | _ | _ | _ | ⟨l⟩ | _ <;> rfl
variable (R) in
noncomputable def wptC : Cx (Value → R → R → R → R) := ⟨fun v e p q => @Value.rec (fun _ => R → R → R → R) (fun _ => R → R → R → R) (fun _ => R → R → R → R) (fun _ e _ _ => e) (fun _ _ e _ _ => e) (fun _ _ e _ _ => e) (fun _ _ _ e _ _ => e) (fun _ e _ _ => e) (fun a _ p q => Option.rec (motive := fun _ => R → R → R) (fun p _ => p) (fun a p q => Addr.rec (motive := fun _ => R → R → R) (fun _ _ s p q => Option.rec (motive := fun _ => R → R → R) (fun _ q => q) (fun _ p _ => p) s p q) a p q) a p q) (fun _ _ _ e _ _ => e) (fun _ e _ _ => e) (fun _ e _ _ => e) (fun _ _ _ _ _ e _ _ => e) (fun e _ _ => e) (fun _ _ _ e _ _ => e) (fun e _ _ => e) (fun _ _ e _ _ => e) (fun _ _ e _ _ => e) (fun _ _ e _ _ => e) (fun e _ _ => e) (fun _ _ _ _ e _ _ => e) v e p q⟩
theorem wptC_eq (v : Value) (e p q : R) : (wptC R).f v e p q = match v with | .pointer (some ⟨_, _, none⟩) => q | .pointer _ => p | _ => e := by
  rcases v with _ | _ | _ | _ | _ | a | _ | _ | _ | _ | _ | _ | _ | _ | _ <;> try rfl
  rcases a with _ | ⟨b, o, _ | s⟩ <;> rfl
variable (R) in
noncomputable def dnC : Cx (Nat → (Nat → R) → R) := ⟨fun n k => Nat.rec (motive := fun _ => (Nat → R) → R) (fun k => k 0) (fun m _ k => k (Nat.succ m)) n k⟩
theorem dnC_eq (n : Nat) (k : Nat → R) : (dnC R).f n k = k n := by cases n <;> rfl
noncomputable def opdC (R : Type) (G : Nat) (x : Operand) : Cx (T Value → R → (Value → R) → R) := match x with
  | .tmp t => Cx.rec (motive := fun _ => Cx _) (fun f => ⟨fun ρ _ k => Option.rec (motive := fun _ => R) (k undef) k (f ρ)⟩) (T.gB (α := Value) t)
  | .const v => bif plain v then ⟨fun _ _ k => k v⟩ else ⟨fun _ e _ => e⟩
  | .global g => bif Nat.blt g G then ⟨fun _ _ k => k (.pointer (some ⟨g, 0, none⟩))⟩ else ⟨fun _ e _ => e⟩
  | .func f => ⟨fun _ _ k => k (.func (.func f) #[] #[])⟩
theorem opdC_eq (G : Nat) (x : Operand) (ρ : T Value) (e : R) (k : Value → R) : (opdC R G x).f ρ e k = match okv G (slot ρ) x with | none => e | some v => k v := by
  cases x with
  | tmp t =>
    show Option.rec (motive := fun _ => R) (k undef) k (T.get ρ t) = k (slot ρ t)
    unfold slot
    cases T.get ρ t <;> rfl
  | const v => unfold opdC okv; simp only; cases plain v <;> rfl
  | global g => unfold opdC okv; simp only; cases Nat.blt g G <;> rfl
  | func f => rfl
noncomputable def putC (R : Type) (d : Option Tmp) : Cx (Value → T Value → (T Value → R) → R) := match d with
  | none => ⟨fun _ ρ k => k ρ⟩
  | some t => T.sB (α := Value) R t
theorem putC_eq (d : Option Tmp) (v : Value) (ρ : T Value) (k : T Value → R) : (putC R d).f v ρ k = k (putS ρ d v) := by
  cases d with
  | none => rfl
  | some t => exact T.sB_eq v ρ t k
inductive BI where
  | add | sub | eql | neq | lss | leq | gtr | geq | no
def biOf : BinOp → BI
  | .add => .add
  | .sub => .sub
  | .eql => .eql
  | .neq => .neq
  | .lss => .lss
  | .leq => .leq
  | .gtr => .gtr
  | .geq => .geq
  | _ => .no
variable (R) in
noncomputable def vB : Cx (Bool → (Value → R) → R) := ⟨fun b k => Bool.rec (motive := fun _ => (Value → R) → R) (fun k => k (.bool false)) (fun k => k (.bool true)) b k⟩
theorem vB_eq (b : Bool) (k : Value → R) : (vB R).f b k = k (.bool b) := by cases b <;> rfl
variable (R) in
noncomputable def vN : Cx (Nat → IntKind → (Value → R) → R) := ⟨fun s q k => Nat.rec (motive := fun _ => IntKind → (Value → R) → R) (fun q k => k (.int q (.ofNat 0))) (fun m _ q k => k (.int q (.ofNat (Nat.succ m)))) s q k⟩
theorem vN_eq (q : IntKind) (k : Value → R) (s : Nat) : (vN R).f s q k = k (.int q (.ofNat s)) := by cases s <;> rfl
noncomputable def binN2 (R : Type) (op : BI) : Cx (IntKind → Nat → Nat → R → (Value → R) → R) := match op with
  | .add => Cx.rec (motive := fun _ => Cx _) (fun vn => ⟨fun q a b e k => Bool.rec (motive := fun _ => R) e (vn (Nat.add a b) q k) (Nat.ble (Nat.add a b) (hn q))⟩) (vN R)
  | .sub => Cx.rec (motive := fun _ => Cx _) (fun vn => ⟨fun q a b e k => Bool.rec (motive := fun _ => R) e (Bool.rec (motive := fun _ => R) e (vn (Nat.sub a b) q k) (Nat.ble (Nat.sub a b) (hn q))) (Nat.ble b a)⟩) (vN R)
  | .eql => Cx.rec (motive := fun _ => Cx _) (fun vb => ⟨fun q a b e k => vb (Nat.beq a b) k⟩) (vB R)
  | .neq => ⟨fun q a b e k => Bool.rec (motive := fun _ => (Value → R) → R) (fun k => k (.bool true)) (fun k => k (.bool false)) (Nat.beq a b) k⟩
  | .lss => Cx.rec (motive := fun _ => Cx _) (fun vb => ⟨fun q a b e k => vb (Nat.ble (Nat.succ a) b) k⟩) (vB R)
  | .leq => Cx.rec (motive := fun _ => Cx _) (fun vb => ⟨fun q a b e k => vb (Nat.ble a b) k⟩) (vB R)
  | .gtr => Cx.rec (motive := fun _ => Cx _) (fun vb => ⟨fun q a b e k => vb (Nat.ble (Nat.succ b) a) k⟩) (vB R)
  | .geq => Cx.rec (motive := fun _ => Cx _) (fun vb => ⟨fun q a b e k => vb (Nat.ble b a) k⟩) (vB R)
  | .no => ⟨fun q a b e k => e⟩
theorem fw_in {q : IntKind} {s : Nat} (h : Nat.ble s (hn q) = true) : fw q (.ofNat s) = .ofNat s := by
  unfold fw
  rw [show inR q (.ofNat s) = true from h]; rfl
theorem dec_beq (a b : Nat) : decide (Int.ofNat a = Int.ofNat b) = Nat.beq a b := by
  by_cases h : a = b
  · subst h; simp
  · cases hb : Nat.beq a b with
    | true => exact absurd (Nat.eq_of_beq_eq_true hb) h
    | false => simp; omega
theorem dec_ble (a b : Nat) : decide (Int.ofNat a ≤ Int.ofNat b) = Nat.ble a b := by
  cases hb : Nat.ble a b with
  | true => have := Nat.le_of_ble_eq_true hb; simp; omega
  | false =>
    have : ¬ a ≤ b := fun h => by rw [Nat.ble_eq_true_of_le h] at hb; cases hb
    simp; omega
theorem dec_blt (a b : Nat) : decide (Int.ofNat a < Int.ofNat b) = Nat.ble (Nat.succ a) b := by
  rw [← dec_ble]; apply decide_eq_decide.2; simp only [Int.ofNat_eq_natCast]; omega
theorem binN2_eq (op : BinOp) (q : IntKind) (a b : Nat) (e : R) (k : Value → R) : (binN2 R (biOf op)).f q a b e k = e ∨ ∃ v, binI op q (.ofNat a) q (.ofNat b) = some v ∧ (binN2 R (biOf op)).f q a b e k = k v := by
  have hq : decide (q = q) = true := by simp
  cases op <;> first | exact .inl rfl | skip
  · cases h : Nat.ble (Nat.add a b) (hn q) with
    | false => left; show Bool.rec _ _ (Nat.ble (Nat.add a b) (hn q)) = e; rw [h]
    | true =>
      right
      refine ⟨_, by simp only [binI, hq, cond_true, ar]; rfl, ?_⟩
      show Bool.rec (motive := fun _ => R) _ _ (Nat.ble (Nat.add a b) (hn q)) = _
      rw [h]
      show (vN R).f (Nat.add a b) q k = _
      rw [vN_eq, show (Int.ofNat a + Int.ofNat b) = Int.ofNat (Nat.add a b) from rfl, fw_in h]
  · cases hb : Nat.ble b a with
    | false => left; show Bool.rec _ _ (Nat.ble b a) = e; rw [hb]
    | true =>
    cases h : Nat.ble (Nat.sub a b) (hn q) with
    | false => left; show Bool.rec _ (Bool.rec _ _ (Nat.ble (Nat.sub a b) (hn q))) (Nat.ble b a) = e; rw [hb, h]
    | true =>
      right
      refine ⟨_, by simp only [binI, hq, cond_true, ar]; rfl, ?_⟩
      show Bool.rec (motive := fun _ => R) _ (Bool.rec (motive := fun _ => R) _ _ (Nat.ble (Nat.sub a b) (hn q))) (Nat.ble b a) = _
      rw [hb, h]
      show (vN R).f (Nat.sub a b) q k = _
      have hle := Nat.le_of_ble_eq_true hb
      rw [vN_eq, show (Int.ofNat a - Int.ofNat b) = Int.ofNat (Nat.sub a b) from by
        show (a : Int) - (b : Int) = ((a - b : Nat) : Int)
        omega, fw_in h]
  all_goals
    right
    refine ⟨_, by simp only [binI, hq, cond_true, ar]; rfl, ?_⟩
  · show (vB R).f (Nat.beq a b) k = _
    rw [vB_eq, dec_beq]
  · show Bool.rec (motive := fun _ => (Value → R) → R) (fun k => k (.bool true)) (fun k => k (.bool false)) (Nat.beq a b) k = _
    rw [dec_beq]; cases Nat.beq a b <;> rfl
  · show (vB R).f (Nat.ble (Nat.succ a) b) k = _
    rw [vB_eq, dec_blt]
  · show (vB R).f (Nat.ble a b) k = _
    rw [vB_eq, dec_ble]
  · show (vB R).f (Nat.ble (Nat.succ b) a) k = _
    rw [vB_eq, dec_blt]
  · show (vB R).f (Nat.ble b a) k = _
    rw [vB_eq, dec_ble]
noncomputable def bin2C (R : Type) (op : BI) : Cx (Value → Value → R → (Value → R) → R) := Cx.rec (motive := fun _ => Cx _) (fun h => ⟨fun u w e k => @Value.rec (fun _ => Value → R → (Value → R) → R) (fun _ => Value → R → (Value → R) → R) (fun _ => Value → R → (Value → R) → R) (fun _ _ e _ => e) (fun q m w e k => Int.rec (motive := fun _ => IntKind → Value → R → (Value → R) → R) (fun a q w e k => @Value.rec (fun _ => IntKind → Nat → R → (Value → R) → R) (fun _ => IntKind → Nat → R → (Value → R) → R) (fun _ => IntKind → Nat → R → (Value → R) → R) (fun _ _ _ e _ => e) (fun q' n q a e k => Int.rec (motive := fun _ => IntKind → IntKind → Nat → R → (Value → R) → R) (fun b q' q a e k => Bool.rec (motive := fun _ => Nat → IntKind → Nat → R → (Value → R) → R) (fun _ _ _ e _ => e) (fun b q a e k => h q a b e k) (decide (q = q')) b q a e k) (fun _ _ _ _ e _ => e) n q' q a e k) (fun _ _ _ _ e _ => e) (fun _ _ _ _ _ e _ => e) (fun _ _ _ e _ => e) (fun _ _ _ e _ => e) (fun _ _ _ _ _ e _ => e) (fun _ _ _ e _ => e) (fun _ _ _ e _ => e) (fun _ _ _ _ _ _ _ e _ => e) (fun _ _ e _ => e) (fun _ _ _ _ _ e _ => e) (fun _ _ e _ => e) (fun _ _ _ _ e _ => e) (fun _ _ _ _ e _ => e) (fun _ _ _ _ e _ => e) (fun _ _ e _ => e) (fun _ _ _ _ _ _ e _ => e) w q a e k) (fun _ _ _ e _ => e) m q w e k) (fun _ _ _ e _ => e) (fun _ _ _ _ e _ => e) (fun _ _ e _ => e) (fun _ _ e _ => e) (fun _ _ _ _ e _ => e) (fun _ _ e _ => e) (fun _ _ e _ => e) (fun _ _ _ _ _ _ e _ => e) (fun _ e _ => e) (fun _ _ _ _ e _ => e) (fun _ e _ => e) (fun _ _ _ e _ => e) (fun _ _ _ e _ => e) (fun _ _ _ e _ => e) (fun _ e _ => e) (fun _ _ _ _ _ e _ => e) u w e k⟩) (binN2 R op)
theorem bin2C_eq (op : BinOp) (u w : Value) (e : R) (k : Value → R) : (bin2C R (biOf op)).f u w e k = e ∨ ∃ q a b v, u = .int q (.ofNat a) ∧ w = .int q (.ofNat b) ∧ binI op q (.ofNat a) q (.ofNat b) = some v ∧ (bin2C R (biOf op)).f u w e k = k v := by
  rcases u with _ | ⟨q, m⟩ | _ | _ | _ | _ | _ | _ | _ | _ | _ | _ | _ | _ | _ <;> try exact .inl rfl
  rcases m with a | a
  · rcases w with _ | ⟨q', n⟩ | _ | _ | _ | _ | _ | _ | _ | _ | _ | _ | _ | _ | _ <;> try exact .inl rfl
    rcases n with b | b
    · by_cases hq : q = q'
      · subst hq
        have hd : decide (q = q) = true := by simp
        have he : (bin2C R (biOf op)).f (.int q (.ofNat a)) (.int q (.ofNat b)) e k = (binN2 R (biOf op)).f q a b e k := by
          show Bool.rec (motive := fun _ => Nat → IntKind → Nat → R → (Value → R) → R) (fun _ _ _ e _ => e) (fun b q a e k => (binN2 R (biOf op)).f q a b e k) (decide (q = q)) b q a e k = _
          rw [hd]
        rcases binN2_eq op q a b e k with h | ⟨v, h, h'⟩
        · exact .inl (he.trans h)
        · exact .inr ⟨q, a, b, v, rfl, rfl, h, he.trans h'⟩
      · left
        show Bool.rec (motive := fun _ => Nat → IntKind → Nat → R → (Value → R) → R) (fun _ _ _ e _ => e) (fun b q a e k => (binN2 R (biOf op)).f q a b e k) (decide (q = q')) b q a e k = _
        rw [decide_eq_false hq]
    · exact .inl rfl
  · exact .inl rfl
noncomputable def getV (t : T Value) (n : Nat) : Option Value := Cx.rec (motive := fun _ => Option Value) (fun f => f t) (T.gB (α := Value) n)
noncomputable def getB (t : T (Option RB)) (n : Nat) : Option (Option RB) := Cx.rec (motive := fun _ => Option (Option RB)) (fun f => f t) (T.gB (α := Option RB) n)
variable (R) in
noncomputable def getC : Cx (Mem → Nat → Nat → R → (Value → R) → R) := ⟨fun M b i e k => Mem.rec (motive := fun _ => Nat → Nat → R → (Value → R) → R) (fun bl _ b i e k => Option.rec (motive := fun _ => Nat → R → (Value → R) → R) (fun _ e _ => e) (fun x i e k => Option.rec (motive := fun _ => Nat → R → (Value → R) → R) (fun _ e _ => e) (fun B i e k => RB.rec (motive := fun _ => Nat → R → (Value → R) → R) (fun cells len _ _ _ i e k => Bool.rec (motive := fun _ => T Value → Nat → R → (Value → R) → R) (fun _ _ e _ => e) (fun cells i e k => Option.rec (motive := fun _ => R → (Value → R) → R) (fun e _ => e) (fun v _ k => k v) (getV cells i) e k) (Nat.ble (Nat.succ i) len) cells i e k) B i e k) x i e k) (getB bl b) i e k) M b i e k⟩
theorem getC_eq (M : Mem) (b i : Nat) (e : R) (k : Value → R) : (getC R).f M b i e k = match M.get b i with | none => e | some v => k v := by
  obtain ⟨bl, n⟩ := M
  unfold Mem.get Mem.at
  show Option.rec (motive := fun _ => Nat → R → (Value → R) → R) (fun _ e _ => e) (fun x i e k => Option.rec (motive := fun _ => Nat → R → (Value → R) → R) (fun _ e _ => e) (fun B i e k => RB.rec (motive := fun _ => Nat → R → (Value → R) → R) (fun cells len _ _ _ i e k => Bool.rec (motive := fun _ => T Value → Nat → R → (Value → R) → R) (fun _ _ e _ => e) (fun cells i e k => Option.rec (motive := fun _ => R → (Value → R) → R) (fun e _ => e) (fun v _ k => k v) (getV cells i) e k) (Nat.ble (Nat.succ i) len) cells i e k) B i e k) x i e k) (T.get bl b) i e k = _
  cases T.get bl b with
  | none => rfl
  | some x =>
    cases x with
    | none => rfl
    | some B =>
      obtain ⟨cells, len, el, es, rw'⟩ := B
      show Bool.rec (motive := fun _ => T Value → Nat → R → (Value → R) → R) (fun _ _ e _ => e) (fun cells i e k => Option.rec (motive := fun _ => R → (Value → R) → R) (fun e _ => e) (fun v _ k => k v) (T.get cells i) e k) (Nat.ble (Nat.succ i) len) cells i e k = match bif Nat.blt i len then T.get cells i else none with | none => e | some v => k v
      rw [show Nat.blt i len = Nat.ble (Nat.succ i) len from rfl]
      cases Nat.ble (Nat.succ i) len with
      | false => rfl
      | true => show Option.rec (motive := fun _ => R → (Value → R) → R) (fun e _ => e) (fun v _ k => k v) (T.get cells i) e k = _; cases T.get cells i <;> rfl
noncomputable def nth {α : Type} (n : Nat) : Cx (List α → R → (α → R) → R) := Nat.rec (motive := fun _ => Cx (List α → R → (α → R) → R)) ⟨fun l e k => List.rec (motive := fun _ => R → (α → R) → R) (fun e _ => e) (fun a _ _ _ k => k a) l e k⟩
  (fun _ ih => Cx.rec (motive := fun _ => Cx _) (fun f => ⟨fun l e k => List.rec (motive := fun _ => R → (α → R) → R) (fun e _ => e) (fun _ t _ e k => f t e k) l e k⟩) ih) n
theorem nth_eq {α : Type} : ∀ (n : Nat) (l : List α) (e : R) (k : α → R), (nth (R := R) n).f l e k = match l[n]? with | none => e | some v => k v
  | 0, [], e, k => rfl
  | 0, a :: l, e, k => rfl
  | n + 1, [], e, k => rfl
  | n + 1, a :: l, e, k => by
    show (nth (R := R) n).f l e k = _
    rw [nth_eq n l e k, List.getElem?_cons_succ]
abbrev OvC (R : Type) := Cx (T Value → Mem → R → (Value → Mem → R) → R)
noncomputable def badC : OvC R := ⟨fun _ _ e _ => e⟩
def tell (r : OR) (e : R) (k : Value → Mem → R) : R := match r with
  | none => e
  | some (v, M) => k v M
noncomputable def moveC (P : Program) (x : Operand) : OvC R := Cx.rec (motive := fun _ => OvC R) (fun f => ⟨fun ρ M e k => f ρ e fun v => k v M⟩) (opdC R P.globals.size x)
theorem moveC_eq {P : Program} {x : Operand} {ρ : T Value} {M : Mem} {e : R} {k : Value → Mem → R} : (moveC P x).f ρ M e k = tell (eMove P (slot ρ) M x) e k := by
  show (opdC R P.globals.size x).f ρ e (fun v => k v M) = _
  rw [opdC_eq]
  unfold eMove tell
  cases okv P.globals.size (slot ρ) x <;> rfl
noncomputable def loadC (P : Program) (t : TypeId) (x : Operand) : OvC R := match P.underlying t with
  | none => badC
  | some d => bif aggT d then (match (P.info? t).map (·.size) with
      | none => badC
      | some n => Cx.rec (motive := fun _ => OvC R) (fun f => Cx.rec (motive := fun _ => OvC R) (fun p => ⟨fun ρ M e k => f ρ e fun v => p v e fun b i => Option.rec (motive := fun _ => R) e (fun l => k (.agg ⟨l⟩) M) (M.getN b i n)⟩) (pC R)) (opdC R P.globals.size x))
    else Cx.rec (motive := fun _ => OvC R) (fun f => Cx.rec (motive := fun _ => OvC R) (fun p => Cx.rec (motive := fun _ => OvC R) (fun g => ⟨fun ρ M e k => f ρ e fun v => p v e fun b i => g M b i e fun v => k v M⟩) (getC R)) (pC R)) (opdC R P.globals.size x)
theorem loadC_eq {P : Program} {t : TypeId} {x : Operand} {ρ : T Value} {M : Mem} {e : R} {k : Value → Mem → R} : (loadC P t x).f ρ M e k = tell (eLoad P (slot ρ) M t x) e k := by
  have hx := fun k => opdC_eq (R := R) P.globals.size x ρ e k
  unfold loadC eLoad
  generalize okv P.globals.size (slot ρ) x = r at hx
  cases hu : P.underlying t with
  | none =>
    rcases r with _ | v
    · rfl
    · rcases v with _ | _ | _ | _ | _ | a | _ | _ | _ | _ | _ | _ | _ | _ | _ <;> try rfl
      rcases a with _ | ⟨b, o, _ | s⟩ <;> rfl
  | some d =>
    simp only
    cases ha : aggT d with
    | true =>
      simp only [cond_true]
      cases hs : (P.info? t).map (·.size) with
      | none =>
        show e = _
        rcases r with _ | v
        · rfl
        · rcases v with _ | _ | _ | _ | _ | a | _ | _ | _ | _ | _ | _ | _ | _ | _ <;> try rfl
          rcases a with _ | ⟨b, o, _ | s⟩ <;> first | rfl | simp only [ha, cond_true, tell]
      | some n =>
        refine (hx _).trans ?_
        rcases r with _ | v
        · rfl
        · rcases v with _ | _ | _ | _ | _ | a | _ | _ | _ | _ | _ | _ | _ | _ | _ <;> try rfl
          rcases a with _ | ⟨b, o, _ | s⟩ <;> try rfl
          simp only [ha, cond_true, pC_eq]
          cases M.getN b o n <;> rfl
    | false =>
      simp only [cond_false]
      refine (hx _).trans ?_
      rcases r with _ | v
      · rfl
      · rcases v with _ | _ | _ | _ | _ | a | _ | _ | _ | _ | _ | _ | _ | _ | _ <;> try rfl
        rcases a with _ | ⟨b, o, _ | s⟩ <;> try rfl
        simp only [ha, cond_false, pC_eq, getC_eq]
        cases M.get b o <;> rfl
noncomputable def mkIC (P : Program) (xt : TypeId) (x : Operand) : OvC R := match P.underlying xt with
  | none => badC
  | some d => (match d with
    | .interface _ => badC
    | _ => Cx.rec (motive := fun _ => OvC R) (fun f => ⟨fun ρ M e k => f ρ e fun v => k (.iface xt v) M⟩) (opdC R P.globals.size x))
theorem mkIC_eq {P : Program} {xt : TypeId} {x : Operand} {ρ : T Value} {M : Mem} {e : R} {k : Value → Mem → R} : (mkIC P xt x).f ρ M e k = tell (eMkI P (slot ρ) M xt x) e k := by
  have hx := fun k => opdC_eq (R := R) P.globals.size x ρ e k
  unfold mkIC eMkI
  generalize okv P.globals.size (slot ρ) x = r at hx
  cases P.underlying xt with
  | none => cases r <;> rfl
  | some d =>
    cases d <;> first
      | (cases r <;> rfl)
      | (refine (hx _).trans ?_; cases r <;> rfl)
noncomputable def pickC (P : Program) (x y z : Operand) : OvC R := Cx.rec (motive := fun _ => OvC R) (fun f => Cx.rec (motive := fun _ => OvC R) (fun g => Cx.rec (motive := fun _ => OvC R) (fun h => Cx.rec (motive := fun _ => OvC R) (fun q => ⟨fun ρ M e k => f ρ e fun u => g ρ e fun v => h ρ e fun w => q u e (k w M) (k v M)⟩) (booC R)) (opdC R P.globals.size z)) (opdC R P.globals.size y)) (opdC R P.globals.size x)
theorem pickC_eq {P : Program} {x y z : Operand} {ρ : T Value} {M : Mem} {e : R} {k : Value → Mem → R} : (pickC P x y z).f ρ M e k = tell (ePick P (slot ρ) M x y z) e k := by
  show (opdC R P.globals.size x).f ρ e (fun u => (opdC R P.globals.size y).f ρ e fun v => (opdC R P.globals.size z).f ρ e fun w => (booC R).f u e (k w M) (k v M)) = _
  simp only [opdC_eq]
  unfold ePick
  generalize okv P.globals.size (slot ρ) x = r1
  generalize okv P.globals.size (slot ρ) y = r2
  generalize okv P.globals.size (slot ρ) z = r3
  cases r1 with
  | none => rfl
  | some u =>
    cases r2 with
    | none => cases u <;> rfl
    | some v =>
      cases r3 with
      | none => cases u <;> rfl
      | some w =>
        cases u <;> try rfl
        rename_i p
        cases p <;> rfl
noncomputable def extC (P : Program) (x : Operand) (i : Nat) : OvC R := Cx.rec (motive := fun _ => OvC R) (fun f => Cx.rec (motive := fun _ => OvC R) (fun g => Cx.rec (motive := fun _ => OvC R) (fun t => ⟨fun ρ M e k => f ρ e fun v => t v e fun l => g l e fun v => k v M⟩) (tupC R)) (nth (R := R) i)) (opdC R P.globals.size x)
theorem extC_eq {P : Program} {x : Operand} {i : Nat} {ρ : T Value} {M : Mem} {e : R} {k : Value → Mem → R} : (extC P x i).f ρ M e k = tell (eExtract P (slot ρ) M x i) e k := by
  show (opdC R P.globals.size x).f ρ e (fun v => (tupC R).f v e fun l => (nth (R := R) i).f l e fun v => k v M) = _
  simp only [opdC_eq, nth_eq, tupC_eq]
  unfold eExtract
  generalize okv P.globals.size (slot ρ) x = r
  cases r with
  | none => rfl
  | some v =>
    cases v <;> try rfl
    rename_i a
    obtain ⟨l⟩ := a
    simp only
    cases l[i]? <;> rfl
noncomputable def slowC (P : Program) (op : Op) : OvC R := Bx.rec (motive := fun _ => OvC R) (fun f => match quiet P op with
  | true => ⟨fun ρ M e k => tell (f ρ M) e fun v M' => doF (fkOf op) v fun v => k v M'⟩
  | false => ⟨fun ρ M e k => tell (f ρ M) e fun v M' => doF (fkOf op) v fun v => doM M' fun M' => k v M'⟩) (stV P op)
theorem slowC_eq {P : Program} {op : Op} {ρ : T Value} {M : Mem} {e : R} {k : Value → Mem → R} : (slowC P op).f ρ M e k = tell (eOp P (slot ρ) M op) e k := by
  rw [← stV_eq]
  unfold slowC
  cases quiet P op with
  | true => show tell ((stV P op).f ρ M) e (fun v M' => doF (fkOf op) v fun v => k v M') = _; simp only [doF_eq]
  | false => show tell ((stV P op).f ρ M) e (fun v M' => doF (fkOf op) v fun v => doM M' fun M' => k v M') = _; simp only [doF_eq, doM_eq]
noncomputable def nilC (P : Program) (x : Operand) : OvC R := Cx.rec (motive := fun _ => OvC R) (fun s => Cx.rec (motive := fun _ => OvC R) (fun f => Cx.rec (motive := fun _ => OvC R) (fun w => ⟨fun ρ M e k => f ρ e fun v => w v (s ρ M e k) e (k v M)⟩) (wptC R)) (opdC R P.globals.size x)) (slowC (R := R) P (.nilCheck x))
theorem nilC_eq {P : Program} {x : Operand} {ρ : T Value} {M : Mem} {e : R} {k : Value → Mem → R} : (nilC P x).f ρ M e k = tell (eNil P (slot ρ) M x) e k := by
  have hs : (slowC (R := R) P (.nilCheck x)).f ρ M e k = tell (eNil P (slot ρ) M x) e k := slowC_eq
  show (opdC R P.globals.size x).f ρ e (fun v => (wptC R).f v ((slowC (R := R) P (.nilCheck x)).f ρ M e k) e (k v M)) = _
  rw [opdC_eq, hs]
  unfold eNil
  generalize okv P.globals.size (slot ρ) x = r
  rcases r with _ | v
  · rfl
  · rcases v with _ | _ | _ | _ | _ | a | _ | _ | _ | _ | _ | _ | _ | _ | _ <;> try rfl
    rcases a with _ | ⟨b, o, _ | s⟩ <;> rfl
noncomputable def fldC (P : Program) (xt : TypeId) (x : Operand) (n : Nat) : OvC R := match P.underlying xt with
  | some (.struct fs) => (match fs[n]? with
    | none => badC
    | some f => (match (P.info? f.type).map (·.size) with
      | none => badC
      | some s => bif Nat.blt 0 s then (match f.offset with
          | 0 => Cx.rec (motive := fun _ => OvC R) (fun f => Cx.rec (motive := fun _ => OvC R) (fun p => ⟨fun ρ M e k => f ρ e fun v => p v e fun _ _ => k v M⟩) (pC R)) (opdC R P.globals.size x)
          | d => Cx.rec (motive := fun _ => OvC R) (fun f => Cx.rec (motive := fun _ => OvC R) (fun p => Cx.rec (motive := fun _ => OvC R) (fun n => ⟨fun ρ M e k => f ρ e fun v => p v e fun b i => n (Nat.add i d) fun o => k (.pointer (some ⟨b, o, none⟩)) M⟩) (dnC R)) (pC R)) (opdC R P.globals.size x))
        else badC))
  | _ => badC
theorem fldC_eq {P : Program} {xt : TypeId} {x : Operand} {n : Nat} {ρ : T Value} {M : Mem} {e : R} {k : Value → Mem → R} : (fldC P xt x n).f ρ M e k = tell (eFldA P (slot ρ) M xt x n) e k := by
  have hx := fun k => opdC_eq (R := R) P.globals.size x ρ e k
  have key : ∀ (c : OvC R), (∀ b i, okv P.globals.size (slot ρ) x = some (.pointer (some ⟨b, i, none⟩)) → tell (eFldA P (slot ρ) M xt x n) e k = e) → c.f ρ M e k = e → c.f ρ M e k = tell (eFldA P (slot ρ) M xt x n) e k := by
    intro c h1 h2
    rw [h2]
    cases hr : okv P.globals.size (slot ρ) x with
    | none => unfold eFldA; rw [hr]; rfl
    | some v =>
      rcases v with _ | _ | _ | _ | _ | a | _ | _ | _ | _ | _ | _ | _ | _ | _ <;> first | (unfold eFldA; rw [hr]; rfl) | skip
      rcases a with _ | ⟨b, o, _ | s⟩ <;> first | (exact (h1 _ _ hr).symm) | (unfold eFldA; rw [hr]; rfl)
  unfold fldC
  split
  · rename_i fs hu
    cases hf : fs[n]? with
    | none => exact key _ (fun b i h => by unfold eFldA; rw [h, hu]; simp only [hf]; rfl) rfl
    | some fd =>
      simp only
      cases hs : (P.info? fd.type).map (·.size) with
      | none => exact key _ (fun b i h => by unfold eFldA; rw [h, hu]; simp only [hf, hs]; rfl) rfl
      | some s =>
        simp only
        cases hz : Nat.blt 0 s with
        | false => exact key _ (fun b i h => by unfold eFldA; rw [h, hu]; simp only [hf, hs, hz]; rfl) rfl
        | true =>
          simp only [cond_true]
          unfold eFldA
          rw [hu]
          simp only [hf, hs, hz, cond_true]
          split
          · rename_i h0
            refine (hx _).trans ?_
            generalize okv P.globals.size (slot ρ) x = r
            rcases r with _ | v
            · rfl
            · rcases v with _ | _ | _ | _ | _ | a | _ | _ | _ | _ | _ | _ | _ | _ | _ <;> try rfl
              rcases a with _ | ⟨b, o, _ | s⟩ <;> try rfl
              simp only [pC_eq, h0, tell, Nat.add_zero]
          · refine (hx _).trans ?_
            generalize okv P.globals.size (slot ρ) x = r
            rcases r with _ | v
            · rfl
            · rcases v with _ | _ | _ | _ | _ | a | _ | _ | _ | _ | _ | _ | _ | _ | _ <;> try rfl
              rcases a with _ | ⟨b, o, _ | s⟩ <;> try rfl
              simp only [pC_eq, dnC_eq, tell]; rfl
  · rename_i hu
    refine key _ (fun b i h => ?_) rfl
    unfold eFldA; rw [h]
    simp only
    rfl
noncomputable def ixaC (P : Program) (t : TypeId) (x y : Operand) : OvC R := match P.underlying t with
  | some (.slice el) => (match (P.info? el).map (·.size) with
    | none => badC
    | some size => Cx.rec (motive := fun _ => OvC R) (fun f => Cx.rec (motive := fun _ => OvC R) (fun g => Cx.rec (motive := fun _ => OvC R) (fun m => Cx.rec (motive := fun _ => OvC R) (fun l => Cx.rec (motive := fun _ => OvC R) (fun n => ⟨fun ρ M e k => g ρ e fun w => m w e fun j => f ρ e fun u => l u e fun b i c => Bool.rec (motive := fun _ => R) e (n (Nat.add i (Nat.mul j size)) fun o => k (.pointer (some ⟨b, o, none⟩)) M) (Nat.ble (Nat.succ j) c)⟩) (dnC R)) (sliC R)) (natC R)) (opdC R P.globals.size y)) (opdC R P.globals.size x))
  | _ => slowC P (.indexAddr t x y)
theorem ixaC_eq {P : Program} {t : TypeId} {x y : Operand} {ρ : T Value} {M : Mem} {e : R} {k : Value → Mem → R} : (ixaC P t x y).f ρ M e k = tell (eIxA P (slot ρ) M t x y) e k := by
  have hx := fun k => opdC_eq (R := R) P.globals.size x ρ e k
  have hy := fun k => opdC_eq (R := R) P.globals.size y ρ e k
  unfold ixaC
  split
  · rename_i el hu
    unfold eIxA
    rw [hu]
    generalize okv P.globals.size (slot ρ) y = r2 at hy
    generalize okv P.globals.size (slot ρ) x = r1 at hx
    cases hs : (P.info? el).map (·.size) with
    | none =>
      show e = _
      rcases r2 with _ | w
      · rfl
      rcases w with _ | ⟨q, n⟩ | _ | _ | _ | _ | _ | _ | _ | _ | _ | _ | _ | _ | _ <;> try rfl
      rcases n with j | j <;> try rfl
      rcases r1 with _ | u
      · rfl
      rcases u with _ | _ | _ | _ | _ | a | ⟨a, l, c⟩ | _ | _ | _ | _ | _ | _ | _ | _ <;> try rfl
      · rcases a with _ | ⟨b, o, _ | s⟩ <;> rfl
      · rcases a with _ | ⟨b, o, _ | s⟩ <;> first | rfl | simp only [hs, tell]
    | some size =>
      refine (hy _).trans ?_
      rcases r2 with _ | w
      · rfl
      rcases w with _ | ⟨q, n⟩ | _ | _ | _ | _ | _ | _ | _ | _ | _ | _ | _ | _ | _ <;> try rfl
      rcases n with j | j <;> try rfl
      refine (hx _).trans ?_
      rcases r1 with _ | u
      · rfl
      rcases u with _ | _ | _ | _ | _ | a | ⟨a, l, c⟩ | _ | _ | _ | _ | _ | _ | _ | _ <;> try rfl
      · rcases a with _ | ⟨b, o, _ | s⟩ <;> rfl
      · rcases a with _ | ⟨b, o, _ | s⟩ <;> try rfl
        simp only [hs]
        show Bool.rec (motive := fun _ => R) e ((dnC R).f (Nat.add o (Nat.mul j size)) fun o => k (.pointer (some ⟨b, o, none⟩)) M) (Nat.ble (Nat.succ j) l) = _
        rw [show Nat.blt j l = Nat.ble (Nat.succ j) l from rfl]
        cases Nat.ble (Nat.succ j) l with
        | false => rfl
        | true => simp only [dnC_eq, cond_true, tell]; rfl
  · exact slowC_eq
noncomputable def fieldC (P : Program) (xt : TypeId) (x : Operand) (i : Nat) : OvC R := match P.underlying xt with
  | some (.struct fs) => (match fs[i]? with
    | none => slowC P (.field xt x i)
    | some f => (match P.underlying f.type with
      | none => slowC P (.field xt x i)
      | some d => bif aggT d then slowC P (.field xt x i) else
        Cx.rec (motive := fun _ => OvC R) (fun h => Cx.rec (motive := fun _ => OvC R) (fun g => Cx.rec (motive := fun _ => OvC R) (fun a => ⟨fun ρ M e k => h ρ e fun v => a v e fun cs => g cs e fun v => k v M⟩) (aggC R)) (nth (R := R) f.offset)) (opdC R P.globals.size x)))
  | _ => slowC P (.field xt x i)
theorem fieldC_eq {P : Program} {xt : TypeId} {x : Operand} {i : Nat} {ρ : T Value} {M : Mem} {e : R} {k : Value → Mem → R} : (fieldC P xt x i).f ρ M e k = tell (eField P (slot ρ) M xt x i) e k := by
  have hx := fun k => opdC_eq (R := R) P.globals.size x ρ e k
  unfold fieldC
  split
  · rename_i fs hu
    cases hf : fs[i]? with
    | none => exact slowC_eq
    | some f =>
      simp only
      cases hd : P.underlying f.type with
      | none => exact slowC_eq
      | some d =>
        simp only
        cases ha : aggT d with
        | true => simp only [cond_true]; exact slowC_eq
        | false =>
          simp only [cond_false]
          refine (hx _).trans ?_
          unfold eField
          rw [hu]
          generalize okv P.globals.size (slot ρ) x = r
          rcases r with _ | v
          · rfl
          · cases v <;> try rfl
            rename_i a
            obtain ⟨l⟩ := a
            simp only [aggC_eq, nth_eq, hf, hd, ha, cond_false]
            cases l[f.offset]? <;> rfl
  · exact slowC_eq
noncomputable def binC (P : Program) (op : BinOp) (xt : TypeId) (x y : Operand) (yt : TypeId) : OvC R := Cx.rec (motive := fun _ => OvC R) (fun s => Cx.rec (motive := fun _ => OvC R) (fun f => Cx.rec (motive := fun _ => OvC R) (fun g => Cx.rec (motive := fun _ => OvC R) (fun h => ⟨fun ρ M e k => f ρ e fun u => g ρ e fun w => h u w (s ρ M e k) fun v => k v M⟩) (bin2C R (biOf op))) (opdC R P.globals.size y)) (opdC R P.globals.size x)) (slowC (R := R) P (.binOp op xt x y yt))
theorem binC_eq {P : Program} {op : BinOp} {xt : TypeId} {x y : Operand} {yt : TypeId} {ρ : T Value} {M : Mem} {e : R} {k : Value → Mem → R} : (binC P op xt x y yt).f ρ M e k = tell (eBin P (slot ρ) M op xt x y) e k := by
  have hs : ∀ e k, (slowC (R := R) P (.binOp op xt x y yt)).f ρ M e k = tell (eBin P (slot ρ) M op xt x y) e k := fun e k => slowC_eq
  have hx := fun k => opdC_eq (R := R) P.globals.size x ρ e k
  have hy := fun k => opdC_eq (R := R) P.globals.size y ρ e k
  refine (hx _).trans ?_
  cases h1 : okv P.globals.size (slot ρ) x with
  | none => unfold eBin; rw [h1]; rfl
  | some u =>
    refine (hy _).trans ?_
    cases h2 : okv P.globals.size (slot ρ) y with
    | none => unfold eBin; rw [h1, h2]; rfl
    | some w =>
      show (bin2C R (biOf op)).f u w ((slowC (R := R) P (.binOp op xt x y yt)).f ρ M e k) (fun v => k v M) = _
      rcases bin2C_eq op u w ((slowC (R := R) P (.binOp op xt x y yt)).f ρ M e k) (fun v => k v M) with h | ⟨q, a, b, v, rfl, rfl, h, h'⟩
      · rw [h]; exact hs e k
      · rw [h']
        unfold eBin
        rw [h1, h2]
        simp only [bin, h, tell]
noncomputable def stC (P : Program) (op : Op) : OvC R := match op with
  | .move x => moveC P x
  | .assign x => moveC P x
  | .pick a b c => pickC P a b c
  | .load t x => loadC P t x
  | .nilCheck x => nilC P x
  | .binOp op xt x y yt => binC P op xt x y yt
  | .makeInterface xt x => mkIC P xt x
  | .fieldAddr t x n => fldC P t x n
  | .field t x n => fieldC P t x n
  | .indexAddr t x y => ixaC P t x y
  | .extract x i => extC P x i
  | op => slowC P op
theorem stC_eq {P : Program} {op : Op} {ρ : T Value} {M : Mem} {e : R} {k : Value → Mem → R} : (stC P op).f ρ M e k = tell (eOp P (slot ρ) M op) e k := by
  unfold stC
  split
  · exact moveC_eq
  · exact moveC_eq
  · exact pickC_eq
  · exact loadC_eq
  · exact nilC_eq
  · exact binC_eq
  · exact mkIC_eq
  · exact fldC_eq
  · exact fieldC_eq
  · exact ixaC_eq
  · exact extC_eq
  · exact slowC_eq
noncomputable def argsC (R : Type) (G : Nat) (xs : List Operand) : Cx (T Value → R → (List Value → R) → R) := List.rec (motive := fun _ => Cx (T Value → R → (List Value → R) → R)) ⟨fun _ _ k => k []⟩
  (fun x _ ih => Cx.rec (motive := fun _ => Cx _) (fun f => Cx.rec (motive := fun _ => Cx _) (fun g => ⟨fun ρ e k => f ρ e fun v => g ρ e fun l => k (v :: l)⟩) ih) (opdC R G x)) xs
theorem argsC_eq (G : Nat) (ρ : T Value) (e : R) : ∀ (xs : List Operand) (k : List Value → R), (argsC R G xs).f ρ e k = match okvs G (slot ρ) xs with | none => e | some l => k l
  | [], k => rfl
  | x :: xs, k => by
    show (opdC R G x).f ρ e (fun v => (argsC R G xs).f ρ e fun l => k (v :: l)) = match (match okv G (slot ρ) x with
    | none => none
    | some v => match okvs G (slot ρ) xs with
      | none => none
      | some l => some (v :: l)) with | none => e | some l => k l
    rw [opdC_eq]
    cases okv G (slot ρ) x with
    | none => rfl
    | some v =>
      simp only
      rw [argsC_eq G ρ e xs]
      cases okvs G (slot ρ) xs <;> rfl
noncomputable def adQ (a b : Option Addr) : Bool := Option.rec (motive := fun _ => Option Addr → Bool) (fun b => qAddr none b) (fun x b => Addr.rec (motive := fun _ => Option Addr → Bool) (fun x i s b => Option.rec (motive := fun _ => Nat → Nat → Option Addr → Bool) (fun x i b => Option.rec (motive := fun _ => Nat → Nat → Bool) (fun _ _ => false) (fun y x i => Addr.rec (motive := fun _ => Nat → Nat → Bool) (fun y j t x i => Option.rec (motive := fun _ => Nat → Nat → Nat → Nat → Bool) (fun y j x i => Bool.rec (motive := fun _ => Nat → Nat → Bool) (fun _ _ => false) (fun i j => Nat.beq i j) (Nat.beq x y) i j) (fun _ _ _ _ _ => false) t y j x i) y x i) b x i) (fun s x i b => qAddr (some ⟨x, i, some s⟩) b) s x i b) x b) a b
theorem adQ_eq (a b : Option Addr) : adQ a b = qAddr a b := by
  rcases a with _ | ⟨x, i, _ | s⟩ <;> try rfl
  rcases b with _ | ⟨y, j, _ | t⟩ <;> try rfl
  show Bool.rec (motive := fun _ => Nat → Nat → Bool) (fun _ _ => false) (fun i j => Nat.beq i j) (Nat.beq x y) i j = (Nat.beq x y && Nat.beq i j)
  cases Nat.beq x y <;> rfl
noncomputable def vQ (v w : Value) : Bool := @Value.rec (fun _ => Value → Bool) (fun _ => Value → Bool) (fun _ => Value → Bool) (fun b w => vEq 8 (.bool b) w) (fun q m w => @Value.rec (fun _ => IntKind → Int → Bool) (fun _ => IntKind → Int → Bool) (fun _ => IntKind → Int → Bool) (fun _ _ _ => false) (fun q' n q m => Bool.rec (motive := fun _ => Int → Int → Bool) (fun _ _ => false) (fun m n => Int.rec (motive := fun _ => Int → Bool) (fun a n => Int.rec (motive := fun _ => Nat → Bool) (fun b a => Nat.beq a b) (fun _ _ => false) n a) (fun a n => decide (Int.negSucc a = n)) m n) (decide (q = q')) m n) (fun _ _ _ _ => false) (fun _ _ _ _ _ => false) (fun _ _ _ => false) (fun _ _ _ => false) (fun _ _ _ _ _ => false) (fun _ _ _ => false) (fun _ _ _ => false) (fun _ _ _ _ _ _ _ => false) (fun _ _ => false) (fun _ _ _ _ _ => false) (fun _ _ => false) (fun _ _ _ _ => false) (fun _ _ _ _ => false) (fun _ _ _ _ => false) (fun _ _ => false) (fun _ _ _ _ _ _ => false) w q m) (fun k n w => vEq 8 (.float k n) w) (fun k x y w => vEq 8 (.complex k x y) w) (fun s w => vEq 8 (.string s) w) (fun a w => @Value.rec (fun _ => Option Addr → Bool) (fun _ => Option Addr → Bool) (fun _ => Option Addr → Bool) (fun _ _ => false) (fun _ _ _ => false) (fun _ _ _ => false) (fun _ _ _ _ => false) (fun _ _ => false) (fun b a => adQ a b) (fun _ _ _ _ => false) (fun _ _ => false) (fun _ _ => false) (fun _ _ _ _ _ _ => false) (fun _ => false) (fun _ _ _ _ => false) (fun _ => false) (fun _ _ _ => false) (fun _ _ _ => false) (fun _ _ _ => false) (fun _ => false) (fun _ _ _ _ _ => false) w a) (fun a l c w => @Value.rec (fun _ => Option Addr → Nat → Nat → Bool) (fun _ => Option Addr → Nat → Nat → Bool) (fun _ => Option Addr → Nat → Nat → Bool) (fun _ _ _ _ => false) (fun _ _ _ _ _ => false) (fun _ _ _ _ _ => false) (fun _ _ _ _ _ _ => false) (fun _ _ _ _ => false) (fun _ _ _ _ => false) (fun b l' c' a l c => Bool.rec (motive := fun _ => Bool) false (Bool.rec (motive := fun _ => Bool) false (Nat.beq c c') (Nat.beq l l')) (adQ a b)) (fun _ _ _ _ => false) (fun _ _ _ _ => false) (fun _ _ _ _ _ _ _ _ => false) (fun _ _ _ => false) (fun _ _ _ _ _ _ => false) (fun _ _ _ => false) (fun _ _ _ _ _ => false) (fun _ _ _ _ _ => false) (fun _ _ _ _ _ => false) (fun _ _ _ => false) (fun _ _ _ _ _ _ _ => false) w a l c) (fun r w => vEq 8 (.map r) w) (fun r w => vEq 8 (.chan r) w) (fun fn a c _ _ w => vEq 8 (.func fn a c) w) (fun w => vEq 8 (.nilFunc) w) (fun t u _ w => vEq 8 (.iface t u) w) (fun w => vEq 8 (.nilIface) w) (fun a _ w => vEq 8 (.agg a) w) (fun a _ w => vEq 8 (.tuple a) w) (fun _ _ _ => false) (fun _ => false) (fun _ _ _ _ _ => false) v w
theorem vQ_eq (v w : Value) : vQ v w = vEq 8 v w := by
  rcases v with _ | ⟨q, m⟩ | _ | _ | _ | a | ⟨a, l, c⟩ | _ | _ | _ | _ | _ | _ | _ | _ <;> try rfl
  · rcases w with _ | ⟨q', n⟩ | _ | _ | _ | _ | _ | _ | _ | _ | _ | _ | _ | _ | _ <;> try rfl
    show Bool.rec (motive := fun _ => Int → Int → Bool) (fun _ _ => false) (fun m n => Int.rec (motive := fun _ => Int → Bool) (fun a n => Int.rec (motive := fun _ => Nat → Bool) (fun b a => Nat.beq a b) (fun _ _ => false) n a) (fun a n => decide (Int.negSucc a = n)) m n) (decide (q = q')) m n = (decide (q = q') && decide (m = n))
    cases hq : decide (q = q') with
    | false => rfl
    | true =>
      rcases m with a | a
      · rcases n with b | b
        · exact (dec_beq a b).symm
        · show false = (true && decide (Int.ofNat a = Int.negSucc b)); simp
      · show decide (Int.negSucc a = n) = (true && decide (Int.negSucc a = n)); simp
  · rcases w with _ | _ | _ | _ | _ | b | _ | _ | _ | _ | _ | _ | _ | _ | _ <;> try rfl
    exact adQ_eq a b
  · rcases w with _ | _ | _ | _ | _ | _ | ⟨b, l', c'⟩ | _ | _ | _ | _ | _ | _ | _ | _ <;> try rfl
    show Bool.rec (motive := fun _ => Bool) false (Bool.rec (motive := fun _ => Bool) false (Nat.beq c c') (Nat.beq l l')) (adQ a b) = (qAddr a b && (Nat.beq l l' && Nat.beq c c'))
    rw [adQ_eq]
    cases qAddr a b <;> cases Nat.beq l l' <;> rfl
end
end Go.Ri

set_option linter.unusedSimpArgs false
set_option linter.unusedVariables false
set_option linter.unusedSectionVars false
namespace Go.Ri
open Go Go.Am Go.RowKit
variable [SymE] [FT] [FTok]
abbrev Nxt := T Value → List Deferred → Mem → OpsR
abbrev OpK := Cx (Caller → T Value → List Deferred → Mem → Nxt → OpsR)
noncomputable def afC (d : Option Tmp) (r : Option (AEnd × Mem)) (ρ : T Value) (ds : List Deferred) (next : Nxt) : OpsR := match r with
  | none => .bad
  | some (.returned v, M') => doT (putS ρ d v) fun ρ => next ρ ds M'
  | some (.panicked ch, M') => .pan ch ρ ds M'
noncomputable def opC (P : Program) (X : Exts) (C : Caller) (d : Option Tmp) (z : Operand) (xs : List Operand) (ρ : T Value) (ds : List Deferred) (M : Mem) (next : Nxt) : OpsR := match calls P (slot ρ) z xs with
  | none => (match extR P X (slot ρ) z xs with
    | none => .bad
    | some v => doV v fun v => doT (putS ρ d v) fun ρ => next ρ ds M)
  | some (g, l) => doL l fun l => afC d (C g l M) ρ ds next
noncomputable def afK (d : Option Tmp) : Cx (Option (AEnd × Mem) → T Value → List Deferred → Nxt → OpsR) := Cx.rec (motive := fun _ => Cx _) (fun p => ⟨fun r ρ ds next => Option.rec (motive := fun _ => T Value → List Deferred → Nxt → OpsR) (fun _ _ _ => .bad) (fun x ρ ds next => Prod.rec (motive := fun _ => T Value → List Deferred → Nxt → OpsR) (fun e M ρ ds next => AEnd.rec (motive := fun _ => Mem → T Value → List Deferred → Nxt → OpsR) (fun v M ρ ds next => p v ρ fun ρ => next ρ ds M) (fun ch M ρ ds _ => .pan ch ρ ds M) e M ρ ds next) x ρ ds next) r ρ ds next⟩) (putC OpsR d)
theorem afK_eq (d : Option Tmp) (r : Option (AEnd × Mem)) (ρ : T Value) (ds : List Deferred) (next : Nxt) : (afK d).f r ρ ds next = afC d r ρ ds next := by
  rcases r with _ | ⟨v | ch, M⟩
  · rfl
  · show (putC OpsR d).f v ρ (fun ρ => next ρ ds M) = _
    rw [putC_eq]; rfl
  · rfl
noncomputable def callC (P : Program) (X : Exts) (d : Option Tmp) (z : Operand) (xs : List Operand) : OpK := match z with
  | .func g => bif fnOk P g then Cx.rec (motive := fun _ => OpK) (fun f => Cx.rec (motive := fun _ => OpK) (fun a => ⟨fun C ρ ds M next => f ρ (opC P X C d (.func g) xs ρ ds M next) fun l => a (C g l M) ρ ds next⟩) (afK d)) (argsC OpsR P.globals.size xs)
    else ⟨fun C ρ ds M next => opC P X C d (.func g) xs ρ ds M next⟩
  | z => ⟨fun C ρ ds M next => opC P X C d z xs ρ ds M next⟩
theorem callC_eq {P : Program} {X : Exts} {C : Caller} {d : Option Tmp} {z : Operand} {xs : List Operand} {ρ : T Value} {ds : List Deferred} {M : Mem} {next : Nxt} : (callC P X d z xs).f C ρ ds M next = opC P X C d z xs ρ ds M next := by
  unfold callC
  split
  · rename_i g
    cases hf : fnOk P g with
    | false => rfl
    | true =>
      show (argsC OpsR P.globals.size xs).f ρ (opC P X C d (.func g) xs ρ ds M next) (fun l => (afK d).f (C g l M) ρ ds next) = _
      rw [argsC_eq]
      simp only [afK_eq]
      cases hl : okvs P.globals.size (slot ρ) xs with
      | none => rfl
      | some l =>
        have : calls P (slot ρ) (.func g) xs = some (g, l) := by
          unfold calls
          simp only [okv, hl, hf, cond_true, List.nil_append, List.append_nil, Array.toList]
        unfold opC
        rw [this]
        simp only [doL_eq]
  · rfl
noncomputable def stU (P : Program) (X : Exts) (op : Op) (d : Option Tmp) : OpK := match op with
  | .call ⟨.value z, ⟨xs⟩, _⟩ => callC P X d z xs
  | .defer ⟨.value z, ⟨xs⟩, _⟩ => ⟨fun C ρ ds M next => match defers P (slot ρ) z xs with
      | none => .bad
      | some df => doT (putS ρ d undef) fun ρ => next ρ (df :: ds) M⟩
  | .panic x => ⟨fun C ρ ds M next => match okv P.globals.size (slot ρ) x with
      | some (.iface u z) => .pan [⟨.iface u z, false, false⟩] ρ ds M
      | _ => .bad⟩
  | op => Cx.rec (motive := fun _ => OpK) (fun f => Cx.rec (motive := fun _ => OpK) (fun p => ⟨fun C ρ ds M next => f ρ M .bad fun v M => p v ρ fun ρ => next ρ ds M⟩) (putC OpsR d)) (stC (R := OpsR) P op)
noncomputable def opT (P : Program) (X : Exts) (C : Caller) (op : Op) (d : Option Tmp) (ρ : T Value) (ds : List Deferred) (M : Mem) (next : Nxt) : OpsR := match op with
    | .call ⟨.value z, ⟨xs⟩, _⟩ => (match calls P (slot ρ) z xs with
      | none => (match extR P X (slot ρ) z xs with
        | none => .bad
        | some v => doV v fun v => doT (putS ρ d v) fun ρ => next ρ ds M)
      | some (g, l) => doL l fun l => (match C g l M with
        | none => .bad
        | some (.returned v, M') => doV v fun v => doT (putS ρ d v) fun ρ => doM M' fun M' => next ρ ds M'
        | some (.panicked ch, M') => .pan ch ρ ds M'))
    | .defer ⟨.value z, ⟨xs⟩, _⟩ => (match defers P (slot ρ) z xs with
      | none => .bad
      | some df => doT (putS ρ d undef) fun ρ => next ρ (df :: ds) M)
    | .panic x => (match okv P.globals.size (slot ρ) x with
      | some (.iface u z) => .pan [⟨.iface u z, false, false⟩] ρ ds M
      | _ => .bad)
    | op => (match eOp P (slot ρ) M op with
      | none => .bad
      | some (v, M') => doV v fun v => doT (putS ρ d v) fun ρ => doM M' fun M' => next ρ ds M')
theorem op1_opT (P : Program) (X : Exts) (C : Caller) (ops : Array Oper) (o : Oper) (ρ : T Value) (ds : List Deferred) (M : Mem) (next : Nxt) : op1 P X C ops o ρ ds M next = match gd ops (slot ρ) o.guard with
  | none => .bad
  | some false => doT (putS ρ o.dst undef) fun ρ => next ρ ds M
  | some true => opT P X C o.op o.dst ρ ds M next := rfl
theorem stU_eq {P : Program} {X : Exts} {C : Caller} {op : Op} {d : Option Tmp} {ρ : T Value} {ds : List Deferred} {M : Mem} {next : Nxt} : (stU P X op d).f C ρ ds M next = opT P X C op d ρ ds M next := by
  unfold stU opT
  split
  · rename_i z xs ts
    rw [callC_eq]
    simp only [opC]
    cases hc : calls P (slot ρ) z xs with
    | none => cases extR P X (slot ρ) z xs <;> rfl
    | some p =>
      obtain ⟨g, l⟩ := p
      simp only [doL_eq, afC]
      cases C g l M with
      | none => rfl
      | some p =>
        obtain ⟨e, M'⟩ := p
        cases e with
        | returned v => simp only [doV_eq, doT_eq, doM_eq]
        | panicked ch => rfl
  · rfl
  · rfl
  · show (stC (R := OpsR) P _).f ρ M .bad (fun v M => (putC OpsR d).f v ρ fun ρ => next ρ ds M) = _
    rw [stC_eq]
    simp only [putC_eq, tell]
    generalize eOp P (slot ρ) M _ = r
    cases r with
    | none => rfl
    | some p => simp only [doV_eq, doT_eq, doM_eq]
noncomputable def gdC (R : Type) (ops : Array Oper) (g : Nat × Bool) : Cx (T Value → R → R → R → R) := match dstOf ops g.1 with
  | none => ⟨fun _ e _ _ => e⟩
  | some t => Cx.rec (motive := fun _ => Cx (T Value → R → R → R → R)) (fun f => Cx.rec (motive := fun _ => Cx (T Value → R → R → R → R)) (fun bo => Cx.rec (motive := fun _ => Cx (T Value → R → R → R → R)) (fun tu => match g.2 with
    | true => ⟨fun ρ e s r => f ρ e fun v => bo v (tu v e fun l => List.rec (motive := fun _ => R) s (fun _ _ _ => e) l) s r⟩
    | false => ⟨fun ρ e s r => f ρ e fun v => bo v (tu v e fun l => List.rec (motive := fun _ => R) s (fun _ _ _ => e) l) r s⟩) (tupC R)) (booC R)) (opdC R 0 (.tmp t))
theorem gdC_eq {R : Type} (ops : Array Oper) (g : Nat × Bool) (ρ : T Value) (e s r : R) : (gdC R ops g).f ρ e s r = match gd ops (slot ρ) (some g) with | none => e | some false => s | some true => r := by
  obtain ⟨j, w⟩ := g
  unfold gdC gd
  simp only
  cases dstOf ops j with
  | none => rfl
  | some t =>
    have hx := fun k => opdC_eq (R := R) 0 (.tmp t) ρ e k
    have he : okv 0 (slot ρ) (.tmp t) = some (slot ρ t) := rfl
    simp only [he] at hx
    simp only
    cases w with
    | true =>
      show (opdC R 0 (.tmp t)).f ρ e (fun v => (booC R).f v ((tupC R).f v e fun l => List.rec (motive := fun _ => R) s (fun _ _ _ => e) l) s r) = _
      refine (hx _).trans ?_
      generalize slot ρ t = v
      rcases v with u | _ | _ | _ | _ | _ | _ | _ | _ | _ | _ | _ | _ | _ | ⟨_ | _⟩ <;> try rfl
      cases u <;> rfl
    | false =>
      show (opdC R 0 (.tmp t)).f ρ e (fun v => (booC R).f v ((tupC R).f v e fun l => List.rec (motive := fun _ => R) s (fun _ _ _ => e) l) r s) = _
      refine (hx _).trans ?_
      generalize slot ρ t = v
      rcases v with u | _ | _ | _ | _ | _ | _ | _ | _ | _ | _ | _ | _ | _ | ⟨_ | _⟩ <;> try rfl
      cases u <;> rfl
noncomputable def stO (P : Program) (X : Exts) (ops : Array Oper) (o : Oper) : OpK := match o.guard with
  | none => stU P X o.op o.dst
  | some g => Cx.rec (motive := fun _ => OpK) (fun h => Cx.rec (motive := fun _ => OpK) (fun p => Cx.rec (motive := fun _ => OpK) (fun f => ⟨fun C ρ ds M next => h ρ .bad (p undef ρ fun ρ => next ρ ds M) (f C ρ ds M next)⟩) (stU P X o.op o.dst)) (putC OpsR o.dst)) (gdC OpsR ops g)
theorem stO_eq (P : Program) (X : Exts) (C : Caller) (ops : Array Oper) (o : Oper) (ρ : T Value) (ds : List Deferred) (M : Mem) (next : Nxt) : (stO P X ops o).f C ρ ds M next = op1 P X C ops o ρ ds M next := by
  rw [op1_opT]
  unfold stO
  cases hg : o.guard with
  | none => simp only [gd]; exact stU_eq
  | some g =>
    show (gdC OpsR ops g).f ρ .bad ((putC OpsR o.dst).f undef ρ fun ρ => next ρ ds M) ((stU P X o.op o.dst).f C ρ ds M next) = _
    rw [gdC_eq, putC_eq, stU_eq]
    cases gd ops (slot ρ) (some g) with
    | none => rfl
    | some b => cases b <;> rfl
abbrev OpsK := Cx (Caller → T Value → List Deferred → Mem → OpsR)
noncomputable def opsS (P : Program) (X : Exts) (ops : Array Oper) (l : List Oper) : OpsK := List.rec (motive := fun _ => OpsK) ⟨fun _ ρ ds M => .norm ρ ds M⟩
  (fun o _ ih => Cx.rec (motive := fun _ => OpsK) (fun f => Cx.rec (motive := fun _ => OpsK) (fun g => ⟨fun C ρ ds M => f C ρ ds M (g C)⟩) ih) (stO P X ops o)) l
theorem opsS_eq (P : Program) (X : Exts) (C : Caller) (ops : Array Oper) : ∀ (l : List Oper), (opsS P X ops l).f C = ops1 P X C ops l
  | [] => rfl
  | o :: l => by
    funext ρ ds M
    show (stO P X ops o).f C ρ ds M ((opsS P X ops l).f C) = op1 P X C ops o ρ ds M (ops1 P X C ops l)
    rw [← opsS_eq P X C ops l, ← stO_eq]
abbrev RdC (R : Type) := Cx (T Value → Mem → R → (Value → R) → R)
noncomputable def stR (R : Type) (P : Program) (ops : Array Oper) (i : Nat) : Option (RdC R × Option Tmp) := match ops[i]? with
  | none => none
  | some o => some (Cx.rec (motive := fun _ => RdC R) (fun f => match o.guard with
    | none => bif quiet P o.op then ⟨fun ρ M e k => f ρ M e fun v _ => k v⟩ else ⟨fun _ _ e _ => e⟩
    | some g => bif quiet P o.op then Cx.rec (motive := fun _ => RdC R) (fun h => ⟨fun ρ M e k => h ρ e (k undef) (f ρ M e fun v _ => k v)⟩) (gdC R ops g)
      else Cx.rec (motive := fun _ => RdC R) (fun h => ⟨fun ρ M e k => h ρ e (k undef) e⟩) (gdC R ops g)) (stC (R := R) P o.op), o.dst)
theorem stR_eq {R : Type} (P : Program) (ops : Array Oper) (i : Nat) : match ops[i]? with
    | none => stR R P ops i = none
    | some o => ∃ f, stR R P ops i = some (f, o.dst) ∧ ∀ ρ M e k, f.f ρ M e k = match hval P ops o (slot ρ) M with | none => e | some v => k v := by
  unfold stR
  cases ops[i]? with
  | none => rfl
  | some o =>
    refine ⟨_, rfl, fun ρ M e k => ?_⟩
    have hf : ∀ k, (stC (R := R) P o.op).f ρ M e k = tell (eOp P (slot ρ) M o.op) e k := fun k => stC_eq
    cases hg : o.guard with
    | none =>
      simp only [hval, hg, gd]
      cases hq : quiet P o.op with
      | true =>
        refine (hf _).trans ?_
        simp only [cond_true]
        cases eOp P (slot ρ) M o.op <;> rfl
      | false => rfl
    | some g =>
      simp only [hval, hg]
      cases hq : quiet P o.op with
      | true =>
        show (gdC R ops g).f ρ e (k undef) ((stC (R := R) P o.op).f ρ M e fun v _ => k v) = _
        rw [gdC_eq, hf]
        simp only [cond_true]
        cases gd ops (slot ρ) (some g) with
        | none => rfl
        | some b =>
          cases b with
          | false => rfl
          | true => simp only; cases eOp P (slot ρ) M o.op <;> rfl
      | false =>
        show (gdC R ops g).f ρ e (k undef) e = _
        rw [gdC_eq]
        cases gd ops (slot ρ) (some g) with
        | none => rfl
        | some b => cases b <;> rfl
abbrev HdC (R : Type) := Cx (T Value → Mem → R → (T Value → R) → R)
noncomputable def headsC1 (R : Type) (P : Program) (ops : Array Oper) (i : Nat) (ih : HdC R) : HdC R := match stR R P ops i with
    | none => ⟨fun _ _ e _ => e⟩
    | some (f, d) => Cx.rec (motive := fun _ => HdC R) (fun f => Cx.rec (motive := fun _ => HdC R) (fun p => Cx.rec (motive := fun _ => HdC R) (fun g => ⟨fun ρ M e k => f ρ M e fun v => p v ρ fun ρ => g ρ M e k⟩) ih) (putC R d)) f
noncomputable def headsS (R : Type) (P : Program) (ops : Array Oper) (hs : List Nat) : HdC R := List.rec (motive := fun _ => HdC R) ⟨fun ρ _ _ k => k ρ⟩
  (fun i _ ih => headsC1 R P ops i ih) hs
theorem headsS_eq {R : Type} (P : Program) (ops : Array Oper) (M : Mem) (e : R) (k : T Value → R) : ∀ (hs : List Nat) (ρ : T Value), (headsS R P ops hs).f ρ M e k = match heads P ops M hs ρ with | none => e | some ρ => k ρ
  | [], ρ => rfl
  | i :: hs, ρ => by
    show (headsC1 R P ops i (headsS R P ops hs)).f ρ M e k = match (match ops[i]? with
      | none => none
      | some o => (match hval P ops o (slot ρ) M with
        | none => none
        | some v => doV v fun v => doT (putS ρ o.dst v) fun ρ => heads P ops M hs ρ)) with | none => e | some ρ => k ρ
    unfold headsC1
    have h := stR_eq (R := R) P ops i
    cases ho : ops[i]? with
    | none => rw [ho] at h; rw [show stR R P ops i = none from h]
    | some o =>
      rw [ho] at h
      obtain ⟨f, h1, h2⟩ := h
      rw [h1]
      show f.f ρ M e (fun v => (putC R o.dst).f v ρ fun ρ => (headsS R P ops hs).f ρ M e k) = _
      rw [h2]
      simp only
      cases hval P ops o (slot ρ) M with
      | none => rfl
      | some v =>
        simp only [putC_eq, doV_eq, doT_eq]
        exact headsS_eq P ops M e k hs _
abbrev AgC := Cx (T Value → Mem → Bool)
noncomputable def againC1 (P : Program) (ops : Array Oper) (i : Nat) (ih : AgC) : AgC := match stR Bool P ops i with
    | none => ⟨fun _ _ => false⟩
    | some (f, d) => (match d with
      | none => ⟨fun _ _ => false⟩
      | some d => Cx.rec (motive := fun _ => AgC) (fun f => Cx.rec (motive := fun _ => AgC) (fun h => Cx.rec (motive := fun _ => AgC) (fun g => ⟨fun ρ M => f ρ M false fun v => h ρ false fun w => Bool.rec (motive := fun _ => Bool) false (g ρ M) (vQ v w)⟩) ih) (opdC Bool 0 (.tmp d))) f)
noncomputable def againS (P : Program) (ops : Array Oper) (q : List Nat) : AgC := List.rec (motive := fun _ => AgC) ⟨fun _ _ => true⟩
  (fun i _ ih => againC1 P ops i ih) q
theorem againS_eq (P : Program) (ops : Array Oper) (ρ : T Value) (M : Mem) : ∀ (q : List Nat), (againS P ops q).f ρ M = again P ops (slot ρ) M q
  | [] => rfl
  | i :: q => by
    show (againC1 P ops i (againS P ops q)).f ρ M = (match ops[i]? with
      | none => false
      | some o => (match o.dst with
        | none => false
        | some d => (match hval P ops o (slot ρ) M with
          | none => false
          | some v => vEq 8 v (slot ρ d) && again P ops (slot ρ) M q)))
    unfold againC1
    have h := stR_eq (R := Bool) P ops i
    cases ho : ops[i]? with
    | none => rw [ho] at h; rw [show stR Bool P ops i = none from h]
    | some o =>
      rw [ho] at h
      obtain ⟨f, h1, h2⟩ := h
      rw [h1]
      simp only
      cases hd : o.dst with
      | none => rfl
      | some d =>
        simp only
        show f.f ρ M false (fun v => (opdC Bool 0 (.tmp d)).f ρ false fun w => Bool.rec (motive := fun _ => Bool) false ((againS P ops q).f ρ M) (vQ v w)) = _
        rw [h2]
        cases hval P ops o (slot ρ) M with
        | none => rfl
        | some v =>
          simp only
          rw [opdC_eq]
          show Bool.rec (motive := fun _ => Bool) false ((againS P ops q).f ρ M) (vQ v (slot ρ d)) = _
          rw [againS_eq P ops ρ M q, vQ_eq]
          cases vEq 8 v (slot ρ d) <;> rfl
noncomputable def stT (P : Program) (X : Exts) (ops : Array Oper) (i : Nat) : Option OpK := match ops[i]? with
  | none => none
  | some o => (match o.op with
    | .defer _ => none
    | _ => some (stO P X ops o))
noncomputable def afH (P : Program) (ops : Array Oper) (nh q : List Nat) (ih : OpsK) : OpsK := Cx.rec (motive := fun _ => OpsK) (fun h => Cx.rec (motive := fun _ => OpsK) (fun a => Cx.rec (motive := fun _ => OpsK) (fun g => ⟨fun C ρ ds M => h ρ M .bad fun ρ => Bool.rec (motive := fun _ => OpsR) .bad (g C ρ ds M) (a ρ M)⟩) ih) (againS P ops q)) (headsS OpsR P ops nh)
theorem afH_eq (P : Program) (ops : Array Oper) (nh q : List Nat) (ih : OpsK) (C : Caller) (ρ : T Value) (ds : List Deferred) (M : Mem) : (afH P ops nh q ih).f C ρ ds M = match heads P ops M nh ρ with
  | none => .bad
  | some ρ => bif again P ops (slot ρ) M q then ih.f C ρ ds M else .bad := by
  show (headsS OpsR P ops nh).f ρ M .bad (fun ρ => Bool.rec (motive := fun _ => OpsR) .bad (ih.f C ρ ds M) ((againS P ops q).f ρ M)) = _
  rw [headsS_eq]
  cases heads P ops M nh ρ with
  | none => rfl
  | some ρ =>
    simp only [againS_eq]
    cases again P ops (slot ρ) M q <;> rfl
noncomputable def tailC1 (P : Program) (X : Exts) (ops : Array Oper) (tq : Nat × List Nat × List Nat) (ih : OpsK) : OpsK := match stT P X ops tq.1 with
    | none => ⟨fun _ _ _ _ => .bad⟩
    | some f => Cx.rec (motive := fun _ => OpsK) (fun f => Cx.rec (motive := fun _ => OpsK) (fun g => ⟨fun C ρ ds M => f C ρ ds M (g C)⟩) (afH P ops tq.2.2 (tq.2.1 ++ tq.2.2) ih)) f
noncomputable def tailS (P : Program) (X : Exts) (ops : Array Oper) (tl : Tl) : OpsK := List.rec (motive := fun _ => OpsK) ⟨fun _ ρ ds M => .norm ρ ds M⟩
  (fun tq _ ih => tailC1 P X ops tq ih) tl
theorem tailS_eq (P : Program) (X : Exts) (C : Caller) (ops : Array Oper) : ∀ (tl : Tl), (tailS P X ops tl).f C = tailR P X C ops tl
  | [] => rfl
  | (t, q, nh) :: tl => by
    funext ρ ds M
    show (tailC1 P X ops (t, q, nh) (tailS P X ops tl)).f C ρ ds M = (match ops[t]? with
      | none => .bad
      | some o => (match o.op with
        | .defer _ => .bad
        | _ => op1 P X C ops o ρ ds M fun ρ ds M => (match heads P ops M nh ρ with
          | none => .bad
          | some ρ => bif again P ops (slot ρ) M (q ++ nh) then tailR P X C ops tl ρ ds M else .bad)))
    have e : (afH P ops nh (q ++ nh) (tailS P X ops tl)).f C = fun ρ ds M => (match heads P ops M nh ρ with
          | none => .bad
          | some ρ => bif again P ops (slot ρ) M (q ++ nh) then tailR P X C ops tl ρ ds M else .bad) := by
      funext ρ ds M
      rw [afH_eq, tailS_eq P X C ops tl]
    rw [← e]
    unfold tailC1 stT
    simp only
    cases ops[t]? with
    | none => rfl
    | some o =>
      simp only
      generalize ho : o.op = op
      cases op <;> first | rfl | exact stO_eq ..
noncomputable def drawS (P : Program) (X : Exts) (ops : Array Oper) (hs : List Nat) (tl : Tl) : OpsK := afH P ops hs hs (tailS P X ops tl)
theorem drawS_eq (P : Program) (X : Exts) (C : Caller) (ops : Array Oper) (hs : List Nat) (tl : Tl) (ρ : T Value) (ds : List Deferred) (M : Mem) : (drawS P X ops hs tl).f C ρ ds M = drawR P X C ops hs tl ρ ds M := by
  unfold drawS drawR
  rw [afH_eq, tailS_eq] <;> (cases heads P ops M hs ρ <;> rfl)
inductive Pt where
  | reg (f : OpsK) (k : List Item)
  | dr (f : OpsK) (ops : Array Oper) (k : List Item)
  | cnd (f : Cx (T Value → SR → (Value → SR) → SR)) (a b : List Item)
  | fin
  | bad
noncomputable def silT (n : Nat) : List Item → List Item := Nat.rec (motive := fun _ => List Item → List Item) (fun l => l) (fun _ ih l => match l with
  | .code c :: k => (match c with
    | .skip => ih k
    | .seq x y => ih (.code x :: .code y :: k)
    | .label _ => ih k
    | .block id c => ih (.code c :: .inBlock id :: k)
    | .loop c => ih (.code c :: .inLoop c :: k)
    | .scope c => ih (.code c :: .inScope c :: k)
    | .exit id => (match exitTo id k with
      | some k => ih k
      | none => l)
    | .goto b => (match gotoIn b k with
      | some k => ih k
      | none => l)
    | _ => l)
  | .inBlock _ :: k => ih k
  | .inLoop c :: k => ih (.code c :: .inLoop c :: k)
  | .inScope _ :: k => ih k
  | l => l) n
theorem silT_spec {P : Program} {N : Nat} {R : ADone → Env → List Deferred → AW → Prop} {ρ : Env} {ds : List Deferred} {aw : AW} : ∀ (n : Nat) (l : List Item), AGo P N (silT n l) ρ ds aw R → AGo P N l ρ ds aw R
  | 0, l, h => h
  | n + 1, l, h0 => by
    have ih := fun l => silT_spec (P := P) (N := N) (R := R) (ρ := ρ) (ds := ds) (aw := aw) n l
    have h : AGo P N (match (generalizing := false) l with
      | .code c :: k => (match (generalizing := false) c with
        | .skip => silT n k
        | .seq x y => silT n (.code x :: .code y :: k)
        | .label _ => silT n k
        | .block id c => silT n (.code c :: .inBlock id :: k)
        | .loop c => silT n (.code c :: .inLoop c :: k)
        | .scope c => silT n (.code c :: .inScope c :: k)
        | .exit id => (match exitTo id k with
          | some k => silT n k
          | none => l)
        | .goto b => (match gotoIn b k with
          | some k => silT n k
          | none => l)
        | _ => l)
      | .inBlock _ :: k => silT n k
      | .inLoop c :: k => silT n (.code c :: .inLoop c :: k)
      | .inScope _ :: k => silT n k
      | l => l) ρ ds aw R := h0
    clear h0
    split at h
    · split at h
      · exact ago_skip (ih _ h)
      · exact ago_seq (ih _ h)
      · exact ago_label (ih _ h)
      · exact ago_block (ih _ h)
      · exact ago_loop (ih _ h)
      · exact ago_scope (ih _ h)
      · split at h
        · rename_i hk; exact ago_exit hk (ih _ h)
        · exact h
      · split at h
        · rename_i hk; exact ago_goto hk (ih _ h)
        · exact h
      · exact h
    · exact ago_inBlock (ih _ h)
    · exact ago_inLoop (ih _ h)
    · exact ago_inScope (ih _ h)
    · exact h
noncomputable def okC (tab : Tab) (N : Nat) : Code → Bool
  | .region id ops draw => dstsOk N ops && (match draw with
    | false => true
    | true => (match tab id with
      | none => true
      | some (hs, tl) => linOk ops hs tl))
  | .seq x y => okC tab N x && okC tab N y
  | .cond _ x y => okC tab N x && okC tab N y
  | .block _ c => okC tab N c
  | .loop c => okC tab N c
  | .scope c => okC tab N c
  | _ => true
noncomputable def okI (tab : Tab) (N : Nat) : Item → Bool
  | .code c => okC tab N c
  | .inLoop c => okC tab N c
  | .inScope c => okC tab N c
  | _ => true
def okL (tab : Tab) (N : Nat) (l : List Item) : Prop := ∀ x ∈ l, okI tab N x = true
section
variable {tab : Tab} {N : Nat}
theorem okL.tail {x : Item} {l : List Item} (h : okL tab N (x :: l)) : okL tab N l := fun y hy => h y (List.mem_cons_of_mem _ hy)
theorem okL.head {x : Item} {l : List Item} (h : okL tab N (x :: l)) : okI tab N x = true := h x (List.mem_cons_self ..)
theorem okL.cons {x : Item} {l : List Item} (h1 : okI tab N x = true) (h : okL tab N l) : okL tab N (x :: l) := fun y hy => by
  rcases List.mem_cons.1 hy with rfl | hy
  · exact h1
  · exact h y hy
theorem findLabel_ok {l : Nat} : ∀ {c r : Code}, okC tab N c = true → findLabel c l = some r → okC tab N r = true
  | .seq a b, r, h, hf => by
    simp only [okC, Bool.and_eq_true] at h
    simp only [findLabel] at hf
    split at hf
    · rename_i rest hr
      simp only [Option.some.injEq] at hf; subst hf
      simp only [okC, Bool.and_eq_true]
      exact ⟨findLabel_ok h.1 hr, h.2⟩
    · exact findLabel_ok h.2 hf
  | .label l', r, h, hf => by
    simp only [findLabel] at hf
    split at hf
    · simp only [Option.some.injEq] at hf; subst hf; rfl
    · cases hf
  | .skip, r, h, hf => by simp [findLabel] at hf
  | .region .., r, h, hf => by simp [findLabel] at hf
  | .cond .., r, h, hf => by simp [findLabel] at hf
  | .block .., r, h, hf => by simp [findLabel] at hf
  | .loop .., r, h, hf => by simp [findLabel] at hf
  | .rangeFunc .., r, h, hf => by simp [findLabel] at hf
  | .exit .., r, h, hf => by simp [findLabel] at hf
  | .scope .., r, h, hf => by simp [findLabel] at hf
  | .goto .., r, h, hf => by simp [findLabel] at hf
  | .ret, r, h, hf => by simp [findLabel] at hf
  | .refuse .., r, h, hf => by simp [findLabel] at hf
theorem exitTo_ok {id : Nat} : ∀ {l k : List Item}, okL tab N l → exitTo id l = some k → okL tab N k
  | [], k, h, he => by simp [exitTo] at he
  | x :: l, k, h, he => by
    unfold exitTo at he
    split at he
    · rename_i id' k' hx
      injection hx with hx1 hx2
      subst hx2
      split at he
      · simp only [Option.some.injEq] at he; subst he; exact h.tail
      · exact exitTo_ok h.tail he
    · rename_i k' hx y hy
      injection hy with hy1 hy2
      subst hy2
      exact exitTo_ok h.tail he
    · rename_i hx; cases hx
theorem gotoIn_ok {b : Nat} : ∀ {l k : List Item}, okL tab N l → gotoIn b l = some k → okL tab N k
  | [], k, h, he => by simp [gotoIn] at he
  | x :: l, k, h, he => by
    unfold gotoIn at he
    split at he
    · rename_i body k' hx
      injection hx with hx1 hx2
      subst hx1; subst hx2
      split at he
      · rename_i rest hr
        simp only [Option.some.injEq] at he; subst he
        exact .cons (findLabel_ok (show okC tab N body = true from h.head) hr) h
      · exact gotoIn_ok h.tail he
    · rename_i k' hx y hy
      injection hy with hy1 hy2
      subst hy2
      exact gotoIn_ok h.tail he
    · rename_i hx; cases hx
theorem silT_ok : ∀ (n : Nat) {l : List Item}, okL tab N l → okL tab N (silT n l)
  | 0, l, h => h
  | n + 1, l, h => by
    have ih := fun {l} (h : okL tab N l) => silT_ok n h
    show okL tab N (match (generalizing := false) l with
      | .code c :: k => (match (generalizing := false) c with
        | .skip => silT n k
        | .seq x y => silT n (.code x :: .code y :: k)
        | .label _ => silT n k
        | .block id c => silT n (.code c :: .inBlock id :: k)
        | .loop c => silT n (.code c :: .inLoop c :: k)
        | .scope c => silT n (.code c :: .inScope c :: k)
        | .exit id => (match exitTo id k with
          | some k => silT n k
          | none => l)
        | .goto b => (match gotoIn b k with
          | some k => silT n k
          | none => l)
        | _ => l)
      | .inBlock _ :: k => silT n k
      | .inLoop c :: k => silT n (.code c :: .inLoop c :: k)
      | .inScope _ :: k => silT n k
      | l => l)
    split
    · split
      · exact ih h.tail
      · have := h.head; simp only [okI, okC, Bool.and_eq_true] at this; exact ih (.cons this.1 (.cons this.2 h.tail))
      · exact ih h.tail
      · have := h.head; exact ih (.cons this (.cons rfl h.tail))
      · have := h.head; exact ih (.cons this (.cons this h.tail))
      · have := h.head; exact ih (.cons this (.cons this h.tail))
      · split
        · rename_i hk; exact ih (exitTo_ok h.tail hk)
        · exact h
      · split
        · rename_i hk; exact ih (gotoIn_ok h.tail hk)
        · exact h
      · exact h
    · exact ih h.tail
    · have := h.head; exact ih (.cons this h)
    · exact ih h.tail
    · exact h
end
noncomputable def pt (P : Program) (X : Exts) (tab : Tab) (l : List Item) : Pt := match silT 60 l with
  | [] => .fin
  | .code c :: k => (match c with
    | .cond x a b => .cnd (opdC SR P.globals.size x) (.code a :: k) (.code b :: k)
    | .ret => .fin
    | .region id ops draw => (match draw with
        | false => .reg (opsS P X ops ops.toList) k
        | true => (match tab id with
          | none => .bad
          | some (hs, tl) => .dr (drawS P X ops hs tl) ops k))
    | _ => .bad)
  | _ => .bad
noncomputable def drK (rs : List Tmp) (ops : Array Oper) (k : List Item) (x : OpsR) : SR := match x with
  | .norm ρ ds M => .go k ρ ds M
  | .pan ch ρ ds M => bif offB rs ops then .fin (.panic ch) ρ ds M else .bad
  | .bad => .bad
noncomputable def cnK (a b : List Item) (ρ : T Value) (ds : List Deferred) (M : Mem) (v : Value) : SR := (booC SR).f v .bad (.go b ρ ds M) (.go a ρ ds M)
noncomputable def step2o (P : Program) (X : Exts) (C : Caller) (tab : Tab) (rs : List Tmp) (todo : List Item) (ρ : T Value) (ds : List Deferred) (M : Mem) : SR := match pt P X tab todo with
  | .reg ⟨f⟩ k => (f C ρ ds M).sr k
  | .dr ⟨f⟩ ops k => drK rs ops k (f C ρ ds M)
  | .cnd ⟨f⟩ a b => f ρ .bad (cnK a b ρ ds M)
  | .fin => .fin .ret ρ ds M
  | .bad => .bad
abbrev StK := Cx (Caller → T Value → List Deferred → Mem → SR)
noncomputable def stepC (P : Program) (X : Exts) (tab : Tab) (rs : List Tmp) (todo : List Item) : StK := match silT 60 todo with
  | [] => ⟨fun _ ρ ds M => .fin .ret ρ ds M⟩
  | .code c :: k => (match c with
    | .cond x a b => Cx.rec (motive := fun _ => StK) (fun f => Cx.rec (motive := fun _ => StK) (fun bo => ⟨fun _ ρ ds M => f ρ .bad fun v => bo v .bad (.go (.code b :: k) ρ ds M) (.go (.code a :: k) ρ ds M)⟩) (booC SR)) (opdC SR P.globals.size x)
    | .ret => ⟨fun _ ρ ds M => .fin .ret ρ ds M⟩
    | .region id ops draw => (match draw with
        | false => Cx.rec (motive := fun _ => StK) (fun f => ⟨fun C ρ ds M => OpsR.rec (motive := fun _ => SR) (fun ρ ds M => .go k ρ ds M) (fun ch ρ ds M => .fin (.panic ch) ρ ds M) .bad (f C ρ ds M)⟩) (opsS P X ops ops.toList)
        | true => (match tab id with
          | none => ⟨fun _ _ _ _ => .bad⟩
          | some (hs, tl) => Cx.rec (motive := fun _ => StK) (fun f => bif offB rs ops then ⟨fun C ρ ds M => OpsR.rec (motive := fun _ => SR) (fun ρ ds M => .go k ρ ds M) (fun ch ρ ds M => .fin (.panic ch) ρ ds M) .bad (f C ρ ds M)⟩
            else ⟨fun C ρ ds M => OpsR.rec (motive := fun _ => SR) (fun ρ ds M => .go k ρ ds M) (fun ch ρ ds M => .bad) .bad (f C ρ ds M)⟩) (drawS P X ops hs tl)))
    | _ => ⟨fun _ _ _ _ => .bad⟩)
  | _ => ⟨fun _ _ _ _ => .bad⟩
theorem stepC_eq (P : Program) (X : Exts) (C : Caller) (tab : Tab) (rs : List Tmp) (todo : List Item) (ρ : T Value) (ds : List Deferred) (M : Mem) : (stepC P X tab rs todo).f C ρ ds M = step2o P X C tab rs todo ρ ds M := by
  unfold stepC step2o pt
  generalize silT 60 todo = l
  match l with
  | [] => rfl
  | .code c :: k =>
    match c with
    | .cond x a b => rfl
    | .ret => rfl
    | .region id ops draw =>
      cases draw with
      | false =>
        show OpsR.rec (motive := fun _ => SR) (fun ρ ds M => .go k ρ ds M) (fun ch ρ ds M => .fin (.panic ch) ρ ds M) .bad ((opsS P X ops ops.toList).f C ρ ds M) = ((opsS P X ops ops.toList).f C ρ ds M).sr k
        cases (opsS P X ops ops.toList).f C ρ ds M <;> rfl
      | true =>
        simp only
        cases tab id with
        | none => rfl
        | some p =>
          obtain ⟨hs, tl⟩ := p
          simp only
          cases ho : offB rs ops with
          | true =>
            show OpsR.rec (motive := fun _ => SR) (fun ρ ds M => .go k ρ ds M) (fun ch ρ ds M => .fin (.panic ch) ρ ds M) .bad ((drawS P X ops hs tl).f C ρ ds M) = drK rs ops k ((drawS P X ops hs tl).f C ρ ds M)
            cases (drawS P X ops hs tl).f C ρ ds M <;> simp only [drK, ho, cond_true]
          | false =>
            show OpsR.rec (motive := fun _ => SR) (fun ρ ds M => .go k ρ ds M) (fun ch ρ ds M => .bad) .bad ((drawS P X ops hs tl).f C ρ ds M) = drK rs ops k ((drawS P X ops hs tl).f C ρ ds M)
            cases (drawS P X ops hs tl).f C ρ ds M <;> simp only [drK, ho, cond_false]
    | .skip => rfl
    | .seq .. => rfl
    | .label .. => rfl
    | .block .. => rfl
    | .loop .. => rfl
    | .scope .. => rfl
    | .exit .. => rfl
    | .goto .. => rfl
    | .rangeFunc .. => rfl
    | .refuse .. => rfl
  | .inBlock .. :: k => rfl
  | .inLoop .. :: k => rfl
  | .inScope .. :: k => rfl
  | .inRegion .. :: k => rfl
  | .inRangeFunc .. :: k => rfl
  | .endRangeFunc .. :: k => rfl
  | .beginRound :: k => rfl
  | .call .. :: k => rfl
  | .extern .. :: k => rfl
noncomputable def step2 (P : Program) (X : Exts) (C : Caller) (tab : Tab) (rs : List Tmp) (todo : List Item) (ρ : T Value) (ds : List Deferred) (M : Mem) : SR := Cx.rec (motive := fun _ => SR) (fun f => f C ρ ds M) (stepC P X tab rs todo)
theorem step2_eq (P : Program) (X : Exts) (C : Caller) (tab : Tab) (rs : List Tmp) (todo : List Item) (ρ : T Value) (ds : List Deferred) (M : Mem) : step2 P X C tab rs todo ρ ds M = step2o P X C tab rs todo ρ ds M := stepC_eq ..
def SR.okS (tab : Tab) (N : Nat) : SR → Prop
  | .go todo _ _ _ => okL tab N todo
  | _ => True
theorem sr_ok {tab : Tab} {N : Nat} {k : List Item} (h : okL tab N k) (x : OpsR) : (x.sr k).okS tab N := by cases x <;> first | exact h | exact True.intro
theorem drK_ok {tab : Tab} {N : Nat} {rs : List Tmp} {ops : Array Oper} {k : List Item} (h : okL tab N k) (x : OpsR) : (drK rs ops k x).okS tab N := by
  cases x with
  | norm ρ ds M => exact h
  | pan ch ρ ds M => unfold drK; cases offB rs ops <;> exact True.intro
  | bad => exact True.intro
theorem cnK_ok {tab : Tab} {N : Nat} {a b : List Item} (ha : okL tab N a) (hb : okL tab N b) (ρ : T Value) (ds : List Deferred) (M : Mem) (v : Value) : (cnK a b ρ ds M v).okS tab N := by
  cases v <;> try exact True.intro
  rename_i u
  cases u
  · exact hb
  · exact ha
theorem cnK_inv {a b : List Item} {ρ : T Value} {ds : List Deferred} {M : Mem} {v : Value} {P : Program} {N : Nat} {rs : List Tmp} {R : ADone → Env → List Deferred → AW → Prop} (h : (cnK a b ρ ds M v).holds P N rs R) : (v = .bool true ∧ (SR.go a ρ ds M).holds P N rs R) ∨ (v = .bool false ∧ (SR.go b ρ ds M).holds P N rs R) := by
  cases v <;> try exact h.elim
  rename_i u
  cases u
  · exact .inr ⟨rfl, h⟩
  · exact .inl ⟨rfl, h⟩
theorem step2_spec {P : Program} {X : Exts} {C : Caller} {N : Nat} {tab : Tab} {rs : List Tmp} {R : ADone → Env → List Deferred → AW → Prop} (hX : ExtOk P X) (hC : CS P C) (hm : P.follows .mixedOrders = true) {todo : List Item} (hok : okL tab N todo) {ρ : T Value} {ds : List Deferred} {M : Mem} :
    ((step2 P X C tab rs todo ρ ds M).holds P N rs R → AGo P N todo (slot ρ) ds M.abs R) ∧ (step2 P X C tab rs todo ρ ds M).okS tab N := by
  have hs : AGo P N (silT 60 todo) (slot ρ) ds M.abs R → AGo P N todo (slot ρ) ds M.abs R := silT_spec 60 todo
  have hok := silT_ok 60 hok
  rw [step2_eq]
  unfold step2o pt
  generalize silT 60 todo = l at hs hok
  match l, hs, hok with
  | [], hs, hok => exact ⟨fun h => hs (ago_nil (h _ fun _ _ => rfl)), True.intro⟩
  | .code c :: k, hs, hok =>
    match c, hs, hok with
    | .cond x a b, hs, hok =>
      show ((((opdC SR P.globals.size x).f ρ .bad (cnK (.code a :: k) (.code b :: k) ρ ds M)).holds P N rs R → AGo P N todo (slot ρ) ds M.abs R) ∧ ((opdC SR P.globals.size x).f ρ .bad (cnK (.code a :: k) (.code b :: k) ρ ds M)).okS tab N)
      rw [opdC_eq]
      cases hc : okv P.globals.size (slot ρ) x with
      | none => exact ⟨fun h => h.elim, True.intro⟩
      | some v =>
        simp only
        obtain ⟨c1, c2⟩ := okv_spec hc
        refine ⟨fun h => hs ?_, ?_⟩
        · rcases cnK_inv h with ⟨rfl, h⟩ | ⟨rfl, h⟩
          · exact ago_cond c1 c2 (fun _ => h) (fun h => by cases h)
          · exact ago_cond c1 c2 (fun h => by cases h) (fun _ => h)
        · have := hok.head
          simp only [okI, okC, Bool.and_eq_true] at this
          exact cnK_ok (okL.cons (x := .code a) this.1 hok.tail) (okL.cons (x := .code b) this.2 hok.tail) _ _ _ _
    | .ret, hs, hok => exact ⟨fun h => hs (ago_ret (h _ fun _ _ => rfl)), True.intro⟩
    | .region id ops draw, hs, hok =>
      have hreg := hok.head
      simp only [okI, okC, Bool.and_eq_true] at hreg
      obtain ⟨hN, hlin⟩ := hreg
      cases draw with
      | false =>
        refine ⟨fun h => hs (step1_spec (tab := tab) (rs := rs) hX hC hm ?_), sr_ok hok.tail _⟩
        show SR.holds P N rs R (bif dstsOk N ops then (ops1 P X C ops ops.toList ρ ds M).sr k else .bad)
        simp only [hN, cond_true]
        simp only [opsS_eq] at h
        exact h
      | true =>
        simp only at hlin ⊢
        cases ht : tab id with
        | none => exact ⟨fun h => h.elim, True.intro⟩
        | some p =>
          obtain ⟨hs', tl⟩ := p
          rw [ht] at hlin
          simp only at hlin ⊢
          refine ⟨fun h => hs (step1_spec (tab := tab) (rs := rs) hX hC hm ?_), drK_ok hok.tail _⟩
          show SR.holds P N rs R (bif dstsOk N ops then (match (generalizing := false) tab id with
              | none => .bad
              | some (hs, tl) => bif linOk ops hs tl then (match drawR P X C ops hs tl ρ ds M with
                  | .norm ρ ds M => .go k ρ ds M
                  | .pan ch ρ ds M => bif offB rs ops then .fin (.panic ch) ρ ds M else .bad
                  | .bad => .bad) else .bad) else .bad)
          simp only [hN, cond_true, ht, hlin]
          simp only [drawS_eq] at h
          exact h
    | .skip, hs, hok => exact ⟨fun h => h.elim, True.intro⟩
    | .seq .., hs, hok => exact ⟨fun h => h.elim, True.intro⟩
    | .label .., hs, hok => exact ⟨fun h => h.elim, True.intro⟩
    | .block .., hs, hok => exact ⟨fun h => h.elim, True.intro⟩
    | .loop .., hs, hok => exact ⟨fun h => h.elim, True.intro⟩
    | .scope .., hs, hok => exact ⟨fun h => h.elim, True.intro⟩
    | .exit .., hs, hok => exact ⟨fun h => h.elim, True.intro⟩
    | .goto .., hs, hok => exact ⟨fun h => h.elim, True.intro⟩
    | .rangeFunc .., hs, hok => exact ⟨fun h => h.elim, True.intro⟩
    | .refuse .., hs, hok => exact ⟨fun h => h.elim, True.intro⟩
  | .inBlock .. :: k, hs, hok => exact ⟨fun h => h.elim, True.intro⟩
  | .inLoop .. :: k, hs, hok => exact ⟨fun h => h.elim, True.intro⟩
  | .inScope .. :: k, hs, hok => exact ⟨fun h => h.elim, True.intro⟩
  | .inRegion .. :: k, hs, hok => exact ⟨fun h => h.elim, True.intro⟩
  | .inRangeFunc .. :: k, hs, hok => exact ⟨fun h => h.elim, True.intro⟩
  | .endRangeFunc .. :: k, hs, hok => exact ⟨fun h => h.elim, True.intro⟩
  | .beginRound :: k, hs, hok => exact ⟨fun h => h.elim, True.intro⟩
  | .call .. :: k, hs, hok => exact ⟨fun h => h.elim, True.intro⟩
  | .extern .. :: k, hs, hok => exact ⟨fun h => h.elim, True.intro⟩
theorem iterS_spec {P : Program} {N : Nat} {tab : Tab} {rs : List Tmp} {R : ADone → Env → List Deferred → AW → Prop} {f : List Item → T Value → List Deferred → Mem → SR} (hf : ∀ todo ρ ds M, okL tab N todo → ((f todo ρ ds M).holds P N rs R → AGo P N todo (slot ρ) ds M.abs R) ∧ (f todo ρ ds M).okS tab N) :
    ∀ (n : Nat) (todo : List Item) (ρ : T Value) (ds : List Deferred) (M : Mem), okL tab N todo → ((iter f n todo ρ ds M).holds P N rs R → AGo P N todo (slot ρ) ds M.abs R) ∧ (iter f n todo ρ ds M).okS tab N
  | 0, todo, ρ, ds, M, hok => hf _ _ _ _ hok
  | n + 1, todo, ρ, ds, M, hok => by
    obtain ⟨h1, h2⟩ := iterS_spec hf n todo ρ ds M hok
    show ((SR.rec (motive := fun _ => SR) (fun a b c d => iter f n a b c d) (fun d ρ ds M => .fin d ρ ds M) .bad (iter f n todo ρ ds M) : SR).holds P N rs R → _) ∧ (SR.rec (motive := fun _ => SR) (fun a b c d => iter f n a b c d) (fun d ρ ds M => .fin d ρ ds M) .bad (iter f n todo ρ ds M) : SR).okS tab N
    cases hx : iter f n todo ρ ds M with
    | go a b c d =>
      rw [hx] at h1 h2
      obtain ⟨k1, k2⟩ := iterS_spec hf n a b c d h2
      exact ⟨fun h => h1 (k1 h), k2⟩
    | fin d ρ' ds' M' => rw [hx] at h1 h2; exact ⟨h1, h2⟩
    | bad => rw [hx] at h1 h2; exact ⟨h1, h2⟩
noncomputable def okP (tab : Nat → Tab) (fs : List Func) : Nat → Bool := List.rec (motive := fun _ => Nat → Bool) (fun _ => true)
  (fun fn _ ih i => (match fn.body with
    | none => true
    | some c => okC (tab i) fn.ntmps c) && ih (Nat.succ i)) fs
theorem okP_spec {tab : Nat → Tab} : ∀ {fs : List Func} {i : Nat}, okP tab fs i = true → ∀ {j : Nat} {fn : Func} {c : Code}, fs[j]? = some fn → fn.body = some c → okC (tab (i + j)) fn.ntmps c = true
  | [], i, h, j, fn, c, hj, hb => by simp at hj
  | g :: fs, i, h, j, fn, c, hj, hb => by
    have h : ((match g.body with
      | none => true
      | some c => okC (tab i) g.ntmps c) && okP tab fs (i + 1)) = true := h
    simp only [Bool.and_eq_true] at h
    cases j with
    | zero =>
      simp only [List.getElem?_cons_zero, Option.some.injEq] at hj
      subst hj
      have h1 := h.1
      rw [hb] at h1
      exact h1
    | succ j =>
      rw [show i + (j + 1) = i + 1 + j by omega]
      exact okP_spec h.2 (by simpa using hj) hb
end Go.Ri

set_option linter.unusedSimpArgs false
set_option linter.unusedVariables false
set_option linter.unusedSectionVars false
namespace Go.Ri
open Go Go.Am Go.RowKit
variable [SymE] [FT] [FTok]
noncomputable def endS (P : Program) (fn : Func) (D : CallerD) (x : SR) : Option (AEnd × Mem) := match x with
  | .fin d ρ ds M => leave P fn D ρ ds d M
  | _ => none
noncomputable def callOneS (P : Program) (X : Exts) (tab : Nat → Tab) (n : Nat) (C : Caller) : Caller := fun f args M => match P.funcs[f]? with
  | none => none
  | some fn => (match fn.body with
    | none => none
    | some c => bif Nat.ble args.length fn.ntmps then endS P fn (callD P X C tab n) (iter (step2 P X C (tab f) (rSlots fn)) n [.code c] (T.ofL args 0 .leaf) [] M) else none)
theorem callOneS_spec {P : Program} {X : Exts} {C : Caller} {tab : Nat → Tab} {n : Nat} (hP : okP tab P.funcs.toList 0 = true) (hX : ExtOk P X) (hC : CS P C) (hm : P.follows .mixedOrders = true) : CS P (callOneS P X tab n C) := by
  intro f args M e M' h
  unfold callOneS endS at h
  split at h
  · cases h
  rename_i fn hf
  split at h
  · cases h
  rename_i c hb
  rw [cond_some] at h
  obtain ⟨hl, h⟩ := h
  have hl := Nat.le_of_ble_eq_true hl
  split at h
  · rename_i d ρ ds M2 hx
    refine acalls_of_ago_d hf hb rfl hl ?_
    rw [← slot_init]
    have hc : okC (tab f) fn.ntmps c = true := by
      have := okP_spec hP (j := f) (fn := fn) (by simpa using hf) hb
      rwa [Nat.zero_add] at this
    refine (iterS_spec (tab := tab f) (N := fn.ntmps) (rs := rSlots fn) (f := step2 P X C (tab f) (rSlots fn)) (fun todo ρ ds M h => step2_spec hX hC hm h) n _ _ _ _ (fun x hx => ?_)).1 ?_
    · obtain rfl := List.mem_singleton.1 hx
      exact hc
    rw [hx]
    intro ρ' hr
    exact leave_spec (callD_spec hX hC hm) hr h
  · cases h
noncomputable def callS (P : Program) (X : Exts) (tab : Nat → Tab) (n : Nat) (d : Nat) : Caller := Nat.rec (motive := fun _ => Caller) (fun _ _ _ => none) (fun _ ih => callOneS P X tab n ih) d
theorem callS_spec {P : Program} {X : Exts} {tab : Nat → Tab} {n : Nat} (hP : okP tab P.funcs.toList 0 = true) (hX : ExtOk P X) (hm : P.follows .mixedOrders = true) : ∀ d, CS P (callS P X tab n d)
  | 0 => fun _ _ _ _ _ h => by cases h
  | d + 1 => callOneS_spec hP hX (callS_spec hP hX hm d) hm
end Go.Ri

set_option linter.unusedSimpArgs false
set_option linter.unusedVariables false
set_option linter.unusedSectionVars false
namespace Go.Ri
open Go Go.Am Go.RowKit
variable [SymE] [FT] [FTok]
def Seg (P : Program) (N : Nat) (t t' : List Item) (ρ ρ' : Env) (aw aw' : AW) : Prop :=
  ∀ (base : Nat → Prop) (s : Inj) (a : Act) (w : World) (b : Frame) (cs : List Frame), Rel P.globals.size base w s aw w → (∀ t, VR s (ρ t) (a.tmps.getD t undef)) → a.tmps.size = N →
    ∃ s' a' w', s.le s' ∧ Steps P (lone (b.atR a t) cs w) (lone (b.atR a' t') cs w') ∧ Rel P.globals.size base w s' aw' w' ∧ (∀ t, VR s' (ρ' t) (a'.tmps.getD t undef)) ∧ a'.tmps.size = N ∧ a'.defers = a.defers
section
variable {P : Program} {N : Nat} {t t' t2 : List Item} {ρ ρ' ρ2 : Env} {aw aw' aw2 : AW} {k : List Item}
theorem Seg.refl : Seg P N t t ρ ρ aw aw := fun base s a w b cs hr he hn => ⟨s, a, w, Inj.le_refl s, Steps.refl P _, hr, he, hn, rfl⟩
theorem Seg.trans (h : Seg P N t t' ρ ρ' aw aw') (k : Seg P N t' t2 ρ' ρ2 aw' aw2) : Seg P N t t2 ρ ρ2 aw aw2 := by
  intro base s a w b cs hr he hn
  obtain ⟨s1, a1, w1, h1, h2, h3, h4, h5, h6⟩ := h base s a w b cs hr he hn
  obtain ⟨s2, a2, w2, k1, k2, k3, k4, k5, k6⟩ := k base s1 a1 w1 b cs h3.re h4 h5
  exact ⟨s2, a2, w2, Inj.le_trans h1 k1, Steps.trans h2 k2, h3.back k3, k4, k5, k6.trans h6⟩
theorem Seg.one (hs : ∀ (b : Frame) (a : Act) (cs : List Frame) (w : World), step P (lone (b.atR a t) cs w) = .next (lone (b.atR a t') cs w)) : Seg P N t t' ρ ρ aw aw :=
  fun base s a w b cs hr he hn => ⟨s, a, w, Inj.le_refl s, .one (hs b a cs w), hr, he, hn, rfl⟩
theorem evalR {base : Nat → Prop} {w0 w : World} {s : Inj} {a : Act} (hr : Rel P.globals.size base w0 s aw w) (he : ∀ t, VR s (ρ t) (a.tmps.getD t undef)) {x : Operand} (hx : okOpd P.globals.size x = true) : VR s (ρ.eval x) (a.eval x) := by
  cases x with
  | tmp t => exact he t
  | const v => exact VR.ofPlain hx
  | global g =>
    obtain ⟨e, h1, h2, h3⟩ := hr.glob g (by simpa [okOpd] using hx)
    have := VR.ptr (s := s) (b := g) (o := 0) h1
    simpa [Env.eval, Act.eval, h2, h3] using this
  | func f => exact .func _ .nil .nil
theorem Seg.cond {c : Operand} {x y : Code} {q : Bool} (hc : okOpd P.globals.size c = true) (h : ρ.eval c = .bool q) : Seg P N (.code (.cond c x y) :: k) (.code (if q then x else y) :: k) ρ ρ aw aw := by
  intro base s a w b cs hr he hn
  have hv := evalR hr he hc
  rw [h] at hv
  exact ⟨s, a, w, Inj.le_refl s, .one (stepR_cond hv.bool_inv), hr, he, hn, rfl⟩
variable {ops : Array Oper} {i d : Nat} {rest : List Nat} {o : Oper} {oq : Op} {M M' : Mem} {v : Value}
theorem wantedN (hg : o.guard = none) (ops : Array Oper) (tmps : Array Value) : Region.wanted o (yielded ops tmps) = true := by unfold Region.wanted; rw [hg]
theorem Seg.val (ho : ops[i]? = some o) (hg : o.guard = none) (hd : ∀ d, o.dst = some d → d < N) (hnd : ∀ c, o.op ≠ .defer c) (hv : OpV P o ρ aw v aw') : Seg P N (.inRegion ops (i :: rest) :: k) (.inRegion ops rest :: k) ρ (ρ.put o.dst v) aw aw' := by
  intro base s a w b cs hr he hn
  obtain ⟨n, v', w', s', h1, h2, h3, h4, h5⟩ := hv base w s a.eval w hr (fun x hx => evalR hr he hx)
  have hst := stepGR_op (P := P) (b := b) (k := k) (cs := cs) (w := w) (rest := rest) ho (wantedN hg ops a.tmps)
  rw [Oper.semAt_eq _ _ _ hnd] at hst
  have hfin : ∀ v, (b.atR a (.inRegion ops (i :: rest) :: k)).finish v = b.atR (a.put o.dst v) (.inRegion ops rest :: k) := by
    intro v; rw [Frame.finish_atR, ho]; rfl
  refine ⟨s', a.put o.dst v', w', h3, .one (step_lone_go ?_), h4, put_env (fun t => (he t).mono h3) (by rw [hn]; exact hd) h5, by rw [put_size]; exact hn, put_defers ..⟩
  rw [hst, ← hfin]
  rcases h2 with rfl | ⟨rfl, rfl⟩ <;> simp [stepG.apply, h1]
theorem Seg.call {fid : FuncId} {args : List Value} (ho : ops[i]? = some o) (hg : o.guard = none) (hd : ∀ d, o.dst = some d → d < N) (hnd : ∀ c, o.op ≠ .defer c) (hc : OpC P o ρ fid args)
    (h : ACalls P fid args aw fun e aw1 => e = .returned v ∧ aw1 = aw') : Seg P N (.inRegion ops (i :: rest) :: k) (.inRegion ops rest :: k) ρ (ρ.put o.dst v) aw aw' := by
  intro base s a w b cs hr he hn
  obtain ⟨args', h1, h2⟩ := hc s a.eval w (fun x hx => evalR hr he hx)
  have hst := stepGR_op (P := P) (b := b) (k := k) (cs := cs) (w := w) (rest := rest) ho (wantedN hg ops a.tmps)
  rw [Oper.semAt_eq _ _ _ hnd] at hst
  have hfin : ∀ v, (b.atR a (.inRegion ops (i :: rest) :: k)).finish v = b.atR (a.put o.dst v) (.inRegion ops rest :: k) := by
    intro v; rw [Frame.finish_atR, ho]; rfl
  obtain ⟨e, w', fr, ⟨s', ae, aw1, k1, k2, k3, rfl, rfl⟩, hcs, _, hlv⟩ := h base w s args' w hr h2 (b.atR a (.inRegion ops (i :: rest) :: k) :: cs)
  cases k3 with
  | returned hv =>
    rename_i v'
    have henter : step P (lone (b.atR a (.inRegion ops (i :: rest) :: k)) cs w) = .next (lone (Frame.enter P fid args'.toArray .normal) (b.atR a (.inRegion ops (i :: rest) :: k) :: cs) w) :=
      step_lone_go (by rw [hst]; simp [stepG.apply, h1, Frame.atR])
    refine ⟨s', a.put o.dst v', w', k1, .head henter (Steps.trans hcs (.one ?_)), k2, put_env (fun t => (he t).mono k1) (by rw [hn]; exact hd) hv, by rw [put_size]; exact hn, put_defers ..⟩
    rw [← hfin]; exact step_leave_returned hlv
theorem Seg.op (ho : ops[i]? = some o) (hop : o.op = oq) (hds : o.dst = some d) (hg : o.guard = none) (hd : d < N) (hnd : ∀ c, oq ≠ .defer c) (he : eOp P ρ M oq = some (v, M')) : Seg P N (.inRegion ops (i :: rest) :: k) (.inRegion ops rest :: k) ρ (ρ.put (some d) v) M.abs M'.abs := by
  have := Seg.val (k := k) (rest := rest) (N := N) ho hg (fun d' h' => by rw [hds] at h'; obtain rfl := Option.some.inj h'; exact hd) (by rw [hop]; exact hnd) (eOp_spec (by rw [hop]; exact he))
  rw [hds] at this
  exact this
theorem Seg.region {id : Nat} : Seg P N (.code (.region id ops false) :: k) (.inRegion ops (List.range ops.size) :: k) ρ ρ aw aw := .one fun _ _ _ _ => stepR_region
theorem Seg.regionEnd : Seg P N (.inRegion ops [] :: k) k ρ ρ aw aw := .one fun _ _ _ _ => stepR_region_end
end
noncomputable def sOp (P : Program) (C : Caller) (o : Oper) (ρ : T Value) (M : Mem) : Option (Value × Mem) := match o.guard with
  | some _ => none
  | none => (match o.op with
    | .call ⟨.value z, ⟨xs⟩, _⟩ => (match calls P (slot ρ) z xs with
      | none => none
      | some (g, l) => (match C g l M with
        | some (.returned v, M') => some (v, M')
        | _ => none))
    | .defer _ => none
    | op => eOp P (slot ρ) M op)
noncomputable def sOps (P : Program) (C : Caller) (N : Nat) (l : List Oper) : T Value → Mem → Option (T Value × Mem) := List.rec (motive := fun _ => T Value → Mem → Option (T Value × Mem)) (fun ρ M => some (ρ, M))
  (fun o _ ih ρ M => match sOp P C o ρ M with
    | none => none
    | some (v, M') => doV v fun v => doT (putS ρ o.dst v) fun ρ => doM M' fun M' => ih ρ M') l
noncomputable def sRun (P : Program) (C : Caller) (N : Nat) (n : Nat) : List Item → T Value → Mem → Option (T Value × Mem) := Nat.rec (motive := fun _ => List Item → T Value → Mem → Option (T Value × Mem)) (fun _ _ _ => none)
  (fun _ ih l ρ M => match l with
    | [] => some (ρ, M)
    | .code c :: k => (match c with
      | .skip => ih k ρ M
      | .seq x y => ih (.code x :: .code y :: k) ρ M
      | .block id c => ih (.code c :: .inBlock id :: k) ρ M
      | .cond c x y => (match okv P.globals.size (slot ρ) c with
        | some (.bool true) => ih (.code x :: k) ρ M
        | some (.bool false) => ih (.code y :: k) ρ M
        | _ => none)
      | .region _ ops false => bif dstsOk N ops then (match sOps P C N ops.toList ρ M with
        | some (ρ, M) => ih k ρ M
        | none => none) else none
      | _ => none)
    | .inBlock _ :: k => ih k ρ M
    | _ => none) n
section
variable {P : Program} {C : Caller} {N : Nat}
theorem sOp_spec (hC : CS P C) {ops : Array Oper} (hN : dstsOk N ops = true) {i : Nat} {o : Oper} (ho : ops[i]? = some o) {rest : List Nat} {k : List Item} {ρ : T Value} {M M' : Mem} {v : Value} (h : sOp P C o ρ M = some (v, M')) :
    Seg P N (.inRegion ops (i :: rest) :: k) (.inRegion ops rest :: k) (slot ρ) (slot (putS ρ o.dst v)) M.abs M'.abs := by
  have hd : ∀ d, o.dst = some d → d < N := fun d hd => dstsOk_get hN (j := i) (by simp [ho, hd])
  rw [slot_put]
  unfold sOp at h
  split at h
  · cases h
  rename_i hg
  generalize hop : o.op = op at h
  split at h
  · rename_i z xs ts
    split at h
    · cases h
    rename_i g l hc
    split at h
    · rename_i v' M2 hr
      simp only [Option.some.injEq, Prod.mk.injEq] at h
      obtain ⟨rfl, rfl⟩ := h
      refine Seg.call ho hg hd (fun c => by rw [hop]; exact fun h => by cases h) (calls_spec hop hc) (ACalls.mono (hC _ _ _ _ _ hr) fun e aw' he => ?_)
      exact he
    · cases h
  · cases h
  · rename_i hnc hnd
    exact Seg.val ho hg hd (fun c => by rw [hop]; exact hnd c) (eOp_spec (by rw [hop]; exact h))
theorem sOps_spec (hC : CS P C) {ops : Array Oper} (hN : dstsOk N ops = true) {k : List Item} : ∀ (l : List Oper) (i : Nat) (ρ ρ' : T Value) (M M' : Mem), ops.toList.drop i = l → sOps P C N l ρ M = some (ρ', M') →
    Seg P N (.inRegion ops (List.range' i l.length) :: k) k (slot ρ) (slot ρ') M.abs M'.abs
  | [], i, ρ, ρ', M, M', hl, h => by
    have h : some (ρ, M) = some (ρ', M') := h
    simp only [Option.some.injEq, Prod.mk.injEq] at h
    obtain ⟨rfl, rfl⟩ := h
    exact Seg.regionEnd
  | o :: l, i, ρ, ρ', M, M', hl, h => by
    have hi : i < ops.toList.length := by
      rcases Nat.lt_or_ge i ops.toList.length with h | h
      · exact h
      · rw [List.drop_eq_nil_of_le h] at hl; cases hl
    rw [List.drop_eq_getElem_cons hi] at hl
    injection hl with h1 h2
    have ho : ops[i]? = some o := by
      rw [← h1]
      have hi' : i < ops.size := by simpa using hi
      simp [hi']
    have h : (match sOp P C o ρ M with
      | none => none
      | some (v, M') => doV v fun v => doT (putS ρ o.dst v) fun ρ => doM M' fun M' => sOps P C N l ρ M') = some (ρ', M') := h
    split at h
    · cases h
    rename_i v M2 hv
    rw [doV_eq, doT_eq, doM_eq] at h
    exact (sOp_spec hC hN ho hv).trans (sOps_spec hC hN l (i + 1) _ _ _ _ h2 h)
theorem sRun_spec (hC : CS P C) {kk : List Item} : ∀ (n : Nat) (l : List Item) (ρ ρ' : T Value) (M M' : Mem), sRun P C N n l ρ M = some (ρ', M') → Seg P N (l ++ kk) kk (slot ρ) (slot ρ') M.abs M'.abs
  | 0, l, ρ, ρ', M, M', h => by cases h
  | n + 1, l, ρ, ρ', M, M', h0 => by
    have ih := sRun_spec hC (kk := kk) n
    have h : (match (generalizing := false) l with
      | [] => some (ρ, M)
      | .code c :: k => (match (generalizing := false) c with
        | .skip => sRun P C N n k ρ M
        | .seq x y => sRun P C N n (.code x :: .code y :: k) ρ M
        | .block id c => sRun P C N n (.code c :: .inBlock id :: k) ρ M
        | .cond c x y => (match okv P.globals.size (slot ρ) c with
          | some (.bool true) => sRun P C N n (.code x :: k) ρ M
          | some (.bool false) => sRun P C N n (.code y :: k) ρ M
          | _ => none)
        | .region _ ops false => bif dstsOk N ops then (match sOps P C N ops.toList ρ M with
          | some (ρ, M) => sRun P C N n k ρ M
          | none => none) else none
        | _ => none)
      | .inBlock _ :: k => sRun P C N n k ρ M
      | _ => none) = some (ρ', M') := h0
    clear h0
    split at h
    · simp only [Option.some.injEq, Prod.mk.injEq] at h
      obtain ⟨rfl, rfl⟩ := h
      exact .refl
    · split at h
      · exact (Seg.one fun _ _ _ _ => stepR_skip).trans (ih _ _ _ _ _ h)
      · exact (Seg.one fun _ _ _ _ => stepR_seq).trans (ih _ _ _ _ _ h)
      · exact (Seg.one fun _ _ _ _ => stepR_block).trans (ih _ _ _ _ _ h)
      · split at h
        · rename_i hc
          obtain ⟨c1, c2⟩ := okv_spec hc
          exact (Seg.cond c1 c2).trans (ih _ _ _ _ _ h)
        · rename_i hc
          obtain ⟨c1, c2⟩ := okv_spec hc
          exact (Seg.cond c1 c2).trans (ih _ _ _ _ _ h)
        · cases h
      · rename_i k0 c0 id ops
        rw [cond_some] at h
        obtain ⟨hN, h⟩ := h
        split at h
        · rename_i ρ2 M2 hs
          have := sOps_spec hC hN (k := k0 ++ kk) ops.toList 0 _ _ _ _ rfl hs
          rw [Array.length_toList, ← List.range_eq_range'] at this
          exact (Seg.region (id := id)).trans (this.trans (ih _ _ _ _ _ h))
        · cases h
      · cases h
    · exact (Seg.one fun _ _ _ _ => stepR_inBlock).trans (ih _ _ _ _ _ h)
    · cases h
end
end Go.Ri

set_option linter.unusedSimpArgs false
set_option linter.unusedVariables false
set_option linter.unusedSectionVars false
namespace Go.Ri
open Go Go.Am Go.RowKit
variable [SymE] [FT] [FTok]
abbrev OpD3 := Op × Option Tmp × Option (Nat × Bool)
def shp (ops : Array Oper) : List OpD3 := ops.toList.map fun o => (o.op, o.dst, o.guard)
theorem shp_get {ops : Array Oper} {l : List OpD3} (h : shp ops = l) {i : Nat} {op : Op} {d : Option Tmp} {g : Option (Nat × Bool)} (hi : l[i]? = some (op, d, g)) : ∃ o, ops[i]? = some o ∧ o.op = op ∧ o.dst = d ∧ o.guard = g := by
  subst h
  simp only [shp, List.getElem?_map, Option.map_eq_some_iff] at hi
  obtain ⟨o, h1, h2⟩ := hi
  simp only [Prod.mk.injEq] at h2
  exact ⟨o, by simpa using h1, h2.1, h2.2.1, h2.2.2⟩
theorem shp_size {ops : Array Oper} {l : List OpD3} (h : shp ops = l) : ops.size = l.length := by
  subst h; simp [shp]
def one64 : Operand := .const (.int .i64 1)
def zero64 : Operand := .const (.int .i64 0)
structure IsBack (P : Program) (fB : FuncId) (T e : TypeId) : Prop where
  ex : ∃ (fn : Func) (i0 i1 i2 i3 : Nat) (o0 o1 o2 o3 : Array Oper) (ti tj tk tl tm tn : TypeId) (ts : Array TypeId),
    P.funcs[fB]? = some fn ∧ (fn.name == "runtime.NumGoroutine") = false ∧ fn.ntmps = 19 ∧ fn.results = #[] ∧
    fn.body = some (.seq (.region i0 o0 false) (.block 0 (.loop (.seq (.seq (.region i1 o1 false) (.cond (.tmp 8) .skip (.exit 0))) (.seq (.block 1 (.seq (.region i3 o3 false) (.cond (.tmp 18) .ret .skip))) (.region i2 o2 false)))))) ∧
    shp o0 = [(.load T (.tmp 1), some 4, none), (.call ⟨.builtin .len, #[.tmp 4], #[T]⟩, some 5, none), (.binOp .sub ti (.tmp 5) one64 tj, some 6, none), (.assign (.tmp 6), some 3, none)] ∧
    shp o1 = [(.move (.tmp 3), some 7, none), (.binOp .geq tk (.tmp 7) zero64 tl, some 8, none)] ∧
    shp o3 = [(.move (.tmp 0), some 11, none), (.move (.tmp 3), some 12, none), (.load T (.tmp 1), some 13, none), (.move (.tmp 3), some 14, none), (.indexAddr T (.tmp 13) (.tmp 14), some 15, none), (.load e (.tmp 15), some 16, none),
      (.call ⟨.value (.tmp 11), #[.tmp 12, .tmp 16], ts⟩, some 17, none), (.unOp .not tm (.tmp 17), some 18, none)] ∧
    shp o2 = [(.move (.tmp 3), some 9, none), (.binOp .sub tn (.tmp 9) one64 tj, some 10, none), (.assign (.tmp 10), some 3, none)]
noncomputable def bkElem (P : Program) (M : Mem) (T e : TypeId) (sv : Value) (i : Nat) : Option Value := match eIxA P (fun t => Nat.rec (motive := fun _ => Value) sv (fun _ _ => .int .i64 (.ofNat i)) t) M T (.tmp 0) (.tmp 1) with
  | some (p, _) => (match eLoad P (fun _ => p) M e (.tmp 0) with
    | some (x, _) => some x
    | none => none)
  | none => none
theorem fw_small {n : Int} (h1 : -9223372036854775808 ≤ n) (h2 : n < 9223372036854775808) : fw .i64 n = n := by
  rw [fw_eq]
  simp only [IntKind.wrap, IntKind.bits, IntKind.signed]
  simp
  split <;> omega
theorem eBin_sub {P : Program} {ρ : Env} {M : Mem} {t : TypeId} {a : Nat} {n : Int} (h : ρ a = .int .i64 n) (t' : TypeId) : eOp P ρ M (.binOp .sub t (.tmp a) one64 t') = some (.int .i64 (fw .i64 (n - 1)), M) := by
  simp [eOp, eBin, okv, one64, plain, h, bin, binI, ar]
theorem eBin_geq {P : Program} {ρ : Env} {M : Mem} {t : TypeId} {a : Nat} {n : Int} (h : ρ a = .int .i64 n) (t' : TypeId) : eOp P ρ M (.binOp .geq t (.tmp a) zero64 t') = some (.bool (decide (0 ≤ n)), M) := by
  simp [eOp, eBin, okv, zero64, plain, h, bin, binI, ar]
theorem eIxA_eq {P : Program} {ρ ρ' : Env} {M : Mem} {T : TypeId} {a b c d : Nat} (h1 : ρ a = ρ' c) (h2 : ρ b = ρ' d) : eIxA P ρ M T (.tmp a) (.tmp b) = eIxA P ρ' M T (.tmp c) (.tmp d) := by
  simp only [eIxA, okv, h1, h2]
theorem eLoad_eq {P : Program} {ρ ρ' : Env} {M : Mem} {T : TypeId} {a c : Nat} (h1 : ρ a = ρ' c) : eLoad P ρ M T (.tmp a) = eLoad P ρ' M T (.tmp c) := by
  simp only [eLoad, okv, h1]
noncomputable def rnd (P : Program) (C : Caller) (N : Nat) (assign body : Code) (ρ : T Value) (M : Mem) : Option Mem := match sRun P C N 100 [.code assign] ρ M with
  | none => none
  | some (ρ1, M1) => (match sRun P C N 100 [.code body] ρ1 M1 with
    | none => none
    | some (_, M2) => some M2)
noncomputable def bkRun (P : Program) (C : Caller) (N : Nat) (tS e : TypeId) (p1 p2 : Tmp) (assign body : Code) (bx : Nat) (ρ : T Value) (L : Nat) (i : Nat) : Mem → Option Mem := Nat.rec (motive := fun _ => Mem → Option Mem) (fun M => some M)
  (fun i ih M => match eLoad P (fun _ => .pointer (some ⟨bx, 0, none⟩)) M tS (.tmp 0) with
    | none => none
    | some (sv, _) => (match bkElem P M tS e sv i with
      | none => none
      | some x => (match rnd P C N assign body (putS (putS ρ (some p1) (.int .i64 (.ofNat i))) (some p2) x) M with
        | none => none
        | some M' => ih M'))) i
section
variable {P : Program}
theorem Seg.regionN {N n id : Nat} {k : List Item} {ρ : Env} {aw : AW} {ops : Array Oper} (h : ops.size = n) : Seg P N (.code (.region id ops false) :: k) (.inRegion ops (List.range n) :: k) ρ ρ aw aw := h ▸ Seg.region
variable {N : Nat} {ops : Array Oper} {sh : List OpD3} {i d : Nat} {rest : List Nat} {k : List Item} {ρ : Env} {M M' : Mem} {v : Value} {oq : Op}
theorem Seg.shp (h : shp ops = sh) (hi : sh[i]? = some (oq, some d, none)) (hd : d < N) (hnd : ∀ c, oq ≠ .defer c) (he : eOp P ρ M oq = some (v, M')) : Seg P N (.inRegion ops (i :: rest) :: k) (.inRegion ops rest :: k) ρ (ρ.put (some d) v) M.abs M'.abs := by
  obtain ⟨o, h1, h2, h3, h4⟩ := shp_get h hi
  exact Seg.op h1 h2 h3 h4 hd hnd he
end
theorem put_ne (ρ : Env) {d t : Nat} (v : Value) (h : t ≠ d) : (ρ.put (some d) v) t = ρ t := by rw [Env.put_some]; exact if_neg h
theorem ev_put (ρ : Env) (d : Nat) (v : Value) : Env.eval (ρ.put (some d) v) (.tmp d) = v := by
  show (ρ.put (some d) v) d = v
  rw [Env.put_some]; exact if_pos rfl
theorem put_eq (ρ : Env) (d : Nat) (v : Value) : (ρ.put (some d) v) d = v := by rw [Env.put_some]; exact if_pos rfl
section
variable {P : Program} {C : Caller}
abbrev lpB (i1 i2 i3 : Nat) (o1 o2 o3 : Array Oper) : Code := .seq (.seq (.region i1 o1 false) (.cond (.tmp 8) .skip (.exit 0))) (.seq (.block 1 (.seq (.region i3 o3 false) (.cond (.tmp 18) .ret .skip))) (.region i2 o2 false))
abbrev lpH (i1 i2 i3 : Nat) (o1 o2 o3 : Array Oper) : List Item := [.code (lpB i1 i2 i3 o1 o2 o3), .inLoop (lpB i1 i2 i3 o1 o2 o3), .inBlock 0]
theorem seg_head {i1 i2 i3 : Nat} {o1 o2 o3 : Array Oper} {tk tl : TypeId} (h1 : shp o1 = [(.move (.tmp 3), some 7, none), (.binOp .geq tk (.tmp 7) zero64 tl, some 8, none)]) {ρ : Env} {M : Mem} {n : Int} (h3 : ρ 3 = .int .i64 n) :
    Seg P 19 (lpH i1 i2 i3 o1 o2 o3) (.code (if decide (0 ≤ n) then .skip else .exit 0) :: .code (.seq (.block 1 (.seq (.region i3 o3 false) (.cond (.tmp 18) .ret .skip))) (.region i2 o2 false)) :: [.inLoop (lpB i1 i2 i3 o1 o2 o3), .inBlock 0])
      ρ ((ρ.put (some 7) (ρ 3)).put (some 8) (.bool (decide (0 ≤ n)))) M.abs M.abs := by
  refine (Seg.one fun _ _ _ _ => stepR_seq).trans ((Seg.one fun _ _ _ _ => stepR_seq).trans ((Seg.regionN (shp_size h1)).trans ?_))
  refine (Seg.shp (N := 19) (i := 0) (rest := [1]) h1 rfl (by decide) (fun c => by simp) (v := ρ 3) (M' := M) rfl).trans ?_
  refine (Seg.shp (N := 19) (i := 1) (rest := []) h1 rfl (by decide) (fun c => by simp) (M' := M) (eBin_geq (n := n) (by rw [put_eq, h3]) _)).trans ?_
  exact Seg.regionEnd.trans (Seg.cond rfl (ev_put _ _ _))
theorem seg_mid {i1 i2 i3 : Nat} {o1 o2 o3 : Array Oper} {T e tm : TypeId} {ts : Array TypeId}
    (h3 : shp o3 = [(.move (.tmp 0), some 11, none), (.move (.tmp 3), some 12, none), (.load T (.tmp 1), some 13, none), (.move (.tmp 3), some 14, none), (.indexAddr T (.tmp 13) (.tmp 14), some 15, none), (.load e (.tmp 15), some 16, none),
      (.call ⟨.value (.tmp 11), #[.tmp 12, .tmp 16], ts⟩, some 17, none), (.unOp .not tm (.tmp 17), some 18, none)])
    {ρ : Env} {M : Mem} {i bx : Nat} {sv x : Value} {k : List Item} (q1 : ρ 1 = .pointer (some ⟨bx, 0, none⟩)) (q3 : ρ 3 = .int .i64 (.ofNat i)) {M1 : Mem} (hs : eLoad P (fun _ => .pointer (some ⟨bx, 0, none⟩)) M T (.tmp 0) = some (sv, M1))
    (hx : bkElem P M T e sv i = some x) :
    ∃ ρ', Seg P 19 (.code .skip :: .code (.seq (.block 1 (.seq (.region i3 o3 false) (.cond (.tmp 18) .ret .skip))) (.region i2 o2 false)) :: k)
      (.inRegion o3 [6, 7] :: .code (.cond (.tmp 18) .ret .skip) :: .inBlock 1 :: .code (.region i2 o2 false) :: k) ρ ρ' M.abs M.abs ∧ ρ' 0 = ρ 0 ∧ ρ' 1 = ρ 1 ∧ ρ' 3 = ρ 3 ∧ ρ' 11 = ρ 0 ∧ ρ' 12 = ρ 3 ∧ ρ' 16 = x := by
  have hM1 : M1 = M := quiet_spec (P := P) (ρ := fun _ => .pointer (some ⟨bx, 0, none⟩)) (op := .load T (.tmp 0)) rfl hs
  subst hM1
  unfold bkElem at hx
  split at hx
  · rename_i p Mp hp
    split at hx
    · rename_i y My hy
      simp only [Option.some.injEq] at hx
      subst hx
      have hMp : Mp = M1 := quiet_spec (P := P) (ρ := fun t => Nat.rec (motive := fun _ => Value) sv (fun _ _ => .int .i64 (.ofNat i)) t) (op := .indexAddr T (.tmp 0) (.tmp 1)) rfl hp
      have hMy : My = M1 := quiet_spec (P := P) (ρ := fun _ => p) (op := .load e (.tmp 0)) rfl hy
      subst hMp
      subst hMy
      refine ⟨((((((ρ.put (some 11) (ρ 0)).put (some 12) (ρ 3)).put (some 13) sv).put (some 14) (ρ 3)).put (some 15) p).put (some 16) y), ?_, ?_⟩
      · refine (Seg.one fun _ _ _ _ => stepR_skip).trans ?_
        refine (Seg.one fun _ _ _ _ => stepR_seq).trans ?_
        refine (Seg.one fun _ _ _ _ => stepR_block).trans ?_
        refine (Seg.one fun _ _ _ _ => stepR_seq).trans ?_
        refine (Seg.regionN (shp_size h3)).trans ?_
        refine (Seg.shp (N := 19) (i := 0) (rest := [1, 2, 3, 4, 5, 6, 7]) h3 rfl (by decide) (fun c => by simp) (v := ρ 0) (M' := My) rfl).trans ?_
        refine (Seg.shp (N := 19) (i := 1) (rest := [2, 3, 4, 5, 6, 7]) h3 rfl (by decide) (fun c => by simp) (v := ρ 3) (M' := My) ?_).trans ?_
        · show some _ = some _
          rw [put_ne _ _ (by decide)]
        refine (Seg.shp (N := 19) (i := 2) (rest := [3, 4, 5, 6, 7]) h3 rfl (by decide) (fun c => by simp) (v := sv) (M' := My) ?_).trans ?_
        · show eLoad P _ My T (.tmp 1) = _
          rw [← hs]; exact eLoad_eq (by rw [put_ne _ _ (by decide), put_ne _ _ (by decide), q1])
        refine (Seg.shp (N := 19) (i := 3) (rest := [4, 5, 6, 7]) h3 rfl (by decide) (fun c => by simp) (v := ρ 3) (M' := My) ?_).trans ?_
        · show some _ = some _
          rw [put_ne _ _ (by decide), put_ne _ _ (by decide), put_ne _ _ (by decide)]
        refine (Seg.shp (N := 19) (i := 4) (rest := [5, 6, 7]) h3 rfl (by decide) (fun c => by simp) (v := p) (M' := My) ?_).trans ?_
        · show eIxA P _ My T (.tmp 13) (.tmp 14) = _
          rw [← hp]
          refine eIxA_eq ?_ ?_
          · show _ = sv
            rw [put_ne _ _ (by decide), put_eq]
          · show _ = Value.int .i64 (.ofNat i)
            rw [put_eq, q3]
        refine Seg.shp (N := 19) (i := 5) (rest := [6, 7]) h3 rfl (by decide) (fun c => by simp) (v := y) (M' := My) ?_
        show eLoad P _ My e (.tmp 15) = _
        rw [← hy]; exact eLoad_eq (by rw [put_eq])
      · refine ⟨?_, ?_, ?_, ?_, ?_, put_eq _ _ _⟩
        all_goals simp only [Env.put_some]
        all_goals rfl
    · cases hx
  · cases hx
theorem seg_tail {i1 i2 i3 : Nat} {o1 o2 o3 : Array Oper} {T e tm tn tj : TypeId} {ts : Array TypeId}
    (h3 : shp o3 = [(.move (.tmp 0), some 11, none), (.move (.tmp 3), some 12, none), (.load T (.tmp 1), some 13, none), (.move (.tmp 3), some 14, none), (.indexAddr T (.tmp 13) (.tmp 14), some 15, none), (.load e (.tmp 15), some 16, none),
      (.call ⟨.value (.tmp 11), #[.tmp 12, .tmp 16], ts⟩, some 17, none), (.unOp .not tm (.tmp 17), some 18, none)])
    (h2 : shp o2 = [(.move (.tmp 3), some 9, none), (.binOp .sub tn (.tmp 9) one64 tj, some 10, none), (.assign (.tmp 10), some 3, none)])
    {ρ : Env} {M : Mem} {n : Int} (q3 : ρ 3 = .int .i64 n) (q17 : ρ 17 = .bool true) :
    ∃ ρ', Seg P 19 (.inRegion o3 [7] :: .code (.cond (.tmp 18) .ret .skip) :: .inBlock 1 :: .code (.region i2 o2 false) :: [.inLoop (lpB i1 i2 i3 o1 o2 o3), .inBlock 0]) (lpH i1 i2 i3 o1 o2 o3) ρ ρ' M.abs M.abs ∧ ρ' 0 = ρ 0 ∧ ρ' 1 = ρ 1 ∧ ρ' 3 = .int .i64 (fw .i64 (n - 1)) := by
  refine ⟨((((ρ.put (some 18) (.bool false)).put (some 9) (.int .i64 n)).put (some 10) (.int .i64 (fw .i64 (n - 1)))).put (some 3) (.int .i64 (fw .i64 (n - 1)))), ?_, ?_⟩
  · refine (Seg.shp (N := 19) (i := 7) (rest := []) h3 rfl (by decide) (fun c => by simp) (v := .bool false) (M' := M) (by simp [eOp, eUn, okv, q17])).trans ?_
    refine Seg.regionEnd.trans ?_
    refine (Seg.cond (q := false) rfl (ev_put _ _ _)).trans ?_
    refine (Seg.one fun _ _ _ _ => stepR_skip).trans ?_
    refine (Seg.one fun _ _ _ _ => stepR_inBlock).trans ?_
    refine (Seg.regionN (shp_size h2)).trans ?_
    refine (Seg.shp (N := 19) (i := 0) (rest := [1, 2]) h2 rfl (by decide) (fun c => by simp) (v := .int .i64 n) (M' := M) ?_).trans ?_
    · show some _ = some _
      rw [put_ne _ _ (by decide), q3]
    refine (Seg.shp (N := 19) (i := 1) (rest := [2]) h2 rfl (by decide) (fun c => by simp) (M' := M) (eBin_sub (n := n) (put_eq _ _ _) _)).trans ?_
    refine (Seg.shp (N := 19) (i := 2) (rest := []) h2 rfl (by decide) (fun c => by simp) (v := .int .i64 (fw .i64 (n - 1))) (M' := M) ?_).trans ?_
    · show some _ = some _
      rw [put_eq]
    exact Seg.regionEnd.trans (Seg.one fun _ _ _ _ => stepR_inLoop)
  · refine ⟨?_, ?_, put_eq _ _ _⟩
    all_goals simp only [Env.put_some]
    all_goals rfl
end
end Go.Ri

set_option linter.unusedSimpArgs false
set_option linter.unusedVariables false
set_option linter.unusedSectionVars false
namespace Go.Ri
open Go Go.Am Go.RowKit
variable [SymE] [FT] [FTok]
section
variable {P : Program} {C : Caller}
theorem step_yield {b : Frame} {a : Act} {ops : Array Oper} {i : Nat} {rest : List Nat} {k : List Item} {cs : List Frame} {w : World} {o : Oper} {l : Nat} {r : Loop} {t11 t12 t16 p1 p2 : Nat} {ts : Array TypeId}
    (ho : ops[i]? = some o) (hop : o.op = .call ⟨.value (.tmp t11), #[.tmp t12, .tmp t16], ts⟩) (hg : o.guard = none) (h11 : a.tmps.getD t11 undef = .func (.yield l) #[] #[]) (hl : w.heap[l]? = some (.loop r)) (hp : r.params = #[p1, p2]) :
    step P (lone (b.atR a (.inRegion ops (i :: rest) :: k)) cs w) =
      .next (lone (Frame.round l r.fn ((r.tmps.setIfInBounds p1 (a.tmps.getD t12 undef)).setIfInBounds p2 (a.tmps.getD t16 undef)) r.assign r.body .normal) (b.atR a (.inRegion ops (i :: rest) :: k) :: cs) w) := by
  have hst := stepGR_op (P := P) (b := b) (k := k) (cs := cs) (w := w) (rest := rest) ho (wantedN hg ops a.tmps)
  rw [Oper.semAt_eq _ _ _ (fun c => by rw [hop]; simp)] at hst
  have hrun : (execOp a.eval o).run P w = .ok (.round l r.fn ((r.tmps.setIfInBounds p1 (a.tmps.getD t12 undef)).setIfInBounds p2 (a.tmps.getD t16 undef)) r.assign r.body) w := by
    have hy := run_yield (P := P) (w := w) (args := #[a.tmps.getD t12 undef, a.tmps.getD t16 undef]) hl (by rw [hp]; rfl)
    rw [hp] at hy
    simp only [execOp, hop, resolve, Sem.run_bind, Act.eval, h11, Deferred.ofValue, Sem.run_pure, Result.andThen_ok, invoke, List.map_toArray, List.map_cons, List.map_nil, Array.append_eq_append, Array.empty_append]
    have e : (#[] ++ [a.tmps.getD t12 undef, a.tmps.getD t16 undef].toArray : Array Value) = #[a.tmps.getD t12 undef, a.tmps.getD t16 undef] := by simp
    have hz : (#[p1, p2] : Array Tmp).zip #[a.tmps.getD t12 undef, a.tmps.getD t16 undef] = #[(p1, a.tmps.getD t12 undef), (p2, a.tmps.getD t16 undef)] := by
      apply Array.toList_inj.1
      simp [Array.toList_zip]
    rw [hy, hz]
    simp
  exact step_lone_go (by rw [hst]; simp [stepG.apply, hrun, Frame.atR])
structure Inv (P : Program) (base : Nat → Prop) (ws : World) (M : Mem) (s : Inj) (l : Nat) (r : Loop) (w : World) : Prop where
  rel : Rel P.globals.size base ws s M.abs w
  rcd : w.heap[l]? = some (.loop r)
theorem rnd_spec (hC : CS P C) {N : Nat} {assign body : Code} {ρ : T Value} {M M' : Mem} (h : rnd P C N assign body ρ M = some M') {base : Nat → Prop} {ws w : World} {s : Inj} {l : Nat} {r : Loop} (hi : Inv P base ws M s l r w) (hls : ws.heap.size ≤ l) (hlb : ¬ base l)
    (hr : r.state = .ready) (hra : r.assign = assign) (hrb : r.body = body) (hrp : r.pending = none) {tmps : Array Value} (he : ∀ t, VR s (slot ρ t) (tmps.getD t undef)) (hn : tmps.size = N) (c : Frame) (cs : List Frame) :
    ∃ s' w', s.le s' ∧ Steps P (lone (Frame.round l r.fn tmps r.assign r.body .normal) (c :: cs) w) (lone (c.finish (.bool true)) cs w') ∧ Inv P base ws M' s' l r w' := by
  unfold rnd at h
  split at h
  · cases h
  rename_i ρ1 M1 h1
  split at h
  · cases h
  rename_i ρ2 M2 h2
  simp only [Option.some.injEq] at h; subst h
  let b : Frame := { (default : Frame) with fn := r.fn, kind := .normal, roundOf := some l }
  have hb0 : Frame.round l r.fn tmps r.assign r.body .normal = b.atR { tmps := tmps, defers := [] } ([.code assign] ++ [.beginRound, .code body]) := by
    simp [Frame.round, Frame.atR, b, hra, hrb]
  rw [hb0]
  obtain ⟨s1, a1, w1, k1, k2, k3, k4, k5, k6⟩ := sRun_spec hC (N := N) (kk := [.beginRound, .code body]) 100 _ _ _ _ _ h1 base s { tmps := tmps, defers := [] } w b (c :: cs) hi.rel.re he hn
  have hl1 : w1.heap[l]? = some (.loop r) := k3.below.other l _ hi.rcd rfl
  have hbr := run_beginRound (P := P) hl1 hr
  have hs1 : step P (lone (b.atR a1 [.beginRound, .code body]) (c :: cs) w1) = .next (lone (b.atR a1 [.code body]) (c :: cs) _) := stepR_beginRound (l := l) rfl hbr
  have hrel1 : Rel P.globals.size base ws s1 M1.abs (w1.putObj l (.loop { r with state := .busy })) := (hi.rel.back k3).putObj hl1 rfl hls hlb _
  obtain ⟨s2, a2, w2, j1, j2, j3, j4, j5, j6⟩ := sRun_spec hC (N := N) (kk := []) 100 _ _ _ _ _ h2 base s1 a1 _ b (c :: cs) hrel1.re k4 k5
  have hlt : l < w1.heap.size := (Array.getElem?_eq_some_iff.1 hl1).1
  have hl2 : w2.heap[l]? = some (.loop { r with state := .busy }) := j3.below.other l _ (World.putObj_heap_same hlt) rfl
  have her := run_endRound (P := P) none hl2
  have hs2 : step P (lone (b.atR a2 []) (c :: cs) w2) = .next (lone (c.finish (.bool true)) cs _) := stepR_round_end (l := l) rfl rfl her
  have hlt2 : l < w2.heap.size := (Array.getElem?_eq_some_iff.1 hl2).1
  have hrr : ({ ({ r with state := .busy } : Loop) with state := if (none : Option Code).isNone then .ready else .done, pending := none } : Loop) = r := by
    cases r; simp only at hr hrp; subst hr; subst hrp; rfl
  refine ⟨s2, _, Inj.le_trans k1 j1, Steps.trans k2 (.head hs1 (Steps.trans (by simpa using j2) (.one hs2))), (hrel1.back j3).putObj hl2 rfl hls hlb _, ?_⟩
  rw [World.putObj_heap_same hlt2, hrr]
theorem back_loop (hC : CS P C) {N : Nat} {T e tk tl tm tn tj : TypeId} {ts : Array TypeId} {i1 i2 i3 : Nat} {o1 o2 o3 : Array Oper} {p1 p2 : Nat} {assign body : Code} {bx L : Nat} {ρ : Go.Ri.T Value} (hp1 : p1 < N) (hp2 : p2 < N)
    (h1 : shp o1 = [(.move (.tmp 3), some 7, none), (.binOp .geq tk (.tmp 7) zero64 tl, some 8, none)])
    (h3 : shp o3 = [(.move (.tmp 0), some 11, none), (.move (.tmp 3), some 12, none), (.load T (.tmp 1), some 13, none), (.move (.tmp 3), some 14, none), (.indexAddr T (.tmp 13) (.tmp 14), some 15, none), (.load e (.tmp 15), some 16, none),
      (.call ⟨.value (.tmp 11), #[.tmp 12, .tmp 16], ts⟩, some 17, none), (.unOp .not tm (.tmp 17), some 18, none)])
    (h2 : shp o2 = [(.move (.tmp 3), some 9, none), (.binOp .sub tn (.tmp 9) one64 tj, some 10, none), (.assign (.tmp 10), some 3, none)])
    {base : Nat → Prop} {ws : World} {l : Nat} {r : Loop} (hls : ws.heap.size ≤ l) (hlb : ¬ base l) (hr : r.state = .ready) (hra : r.assign = assign) (hrb : r.body = body) (hrp : r.pending = none) (hrn : r.tmps.size = N) (hrs : r.params = #[p1, p2]) :
    ∀ (i : Nat) (M M' : Mem), i ≤ 4611686018427387904 → bkRun P C N T e p1 p2 assign body bx ρ L i M = some M' → ∀ {s : Inj} {w : World} (hi : Inv P base ws M s l r w) (hrt : ∀ t, VR s (slot ρ t) (r.tmps.getD t undef)) {ρB : Env} {aB : Act}
      (he : ∀ t, VR s (ρB t) (aB.tmps.getD t undef)) (hn : aB.tmps.size = 19) (q0 : ρB 0 = .func (.yield l) #[] #[]) (q1 : ρB 1 = .pointer (some ⟨bx, 0, none⟩)) (q3 : ρB 3 = .int .i64 ((i : Int) - 1)) (b : Frame) (cs : List Frame),
      ∃ s' w' aB', s.le s' ∧ Steps P (lone (b.atR aB (lpH i1 i2 i3 o1 o2 o3)) cs w) (lone (b.atR aB' []) cs w') ∧ Inv P base ws M' s' l r w' ∧ aB'.defers = aB.defers ∧ aB'.tmps.size = 19
  | 0, M, M', _, h, s, w, hi, hrt, ρB, aB, he, hn, q0, q1, q3, b, cs => by
    have h : some M = some M' := h
    simp only [Option.some.injEq] at h; subst h
    obtain ⟨s1, a1, w1, k1, k2, k3, k4, k5, k6⟩ := seg_head (P := P) (i1 := i1) (i2 := i2) (i3 := i3) (o2 := o2) (o3 := o3) (M := M) h1 q3 base s aB w b cs hi.rel.re he hn
    have hx : step P (lone (b.atR a1 (.code (.exit 0) :: .code (.seq (.block 1 (.seq (.region i3 o3 false) (.cond (.tmp 18) .ret .skip))) (.region i2 o2 false)) :: [.inLoop (lpB i1 i2 i3 o1 o2 o3), .inBlock 0])) cs w1) = .next (lone (b.atR a1 []) cs w1) := stepR_exit rfl
    refine ⟨s1, w1, a1, k1, Steps.trans k2 (.one hx), ⟨hi.rel.back k3, k3.below.other l _ hi.rcd rfl⟩, k6, k5⟩
  | i + 1, M, M', hle, h, s, w, hi, hrt, ρB, aB, he, hn, q0, q1, q3, b, cs => by
    have h : (match eLoad P (fun _ => .pointer (some ⟨bx, 0, none⟩)) M T (.tmp 0) with
      | none => none
      | some (sv, _) => (match bkElem P M T e sv i with
        | none => none
        | some x => (match rnd P C N assign body (putS (putS ρ (some p1) (.int .i64 (.ofNat i))) (some p2) x) M with
          | none => none
          | some M' => bkRun P C N T e p1 p2 assign body bx ρ L i M'))) = some M' := h
    split at h
    · cases h
    rename_i sv M1 hsv
    split at h
    · cases h
    rename_i x hx
    split at h
    · cases h
    rename_i M2 hrnd
    have q3' : ρB 3 = .int .i64 (.ofNat i) := by rw [q3]; congr 1; simp
    obtain ⟨s1, a1, w1, k1, k2, k3, k4, k5, k6⟩ := seg_head (P := P) (i1 := i1) (i2 := i2) (i3 := i3) (o2 := o2) (o3 := o3) (M := M) h1 q3' base s aB w b cs hi.rel.re he hn
    have hdec : decide (0 ≤ Int.ofNat i) = true := by simp
    rw [hdec] at k2 k4
    simp only [if_true] at k2
    have e0 : ∀ t, t ≠ 7 → t ≠ 8 → ((ρB.put (some 7) (ρB 3)).put (some 8) (.bool true)) t = ρB t := fun t t7 t8 => by rw [put_ne _ _ t8, put_ne _ _ t7]
    obtain ⟨ρ8, hmid, m0, m1, m3, m11, m12, m16⟩ := seg_mid (P := P) (i1 := i1) (o1 := o1) (i3 := i3) (i2 := i2) (o2 := o2) (k := [.inLoop (lpB i1 i2 i3 o1 o2 o3), .inBlock 0]) h3 (ρ := (ρB.put (some 7) (ρB 3)).put (some 8) (.bool true)) (by rw [e0 1 (by decide) (by decide)]; exact q1) (by rw [e0 3 (by decide) (by decide)]; exact q3') hsv hx
    rw [e0 0 (by decide) (by decide)] at m0 m11
    rw [e0 1 (by decide) (by decide)] at m1
    rw [e0 3 (by decide) (by decide)] at m3 m12
    obtain ⟨s2, a2, w2, j1, j2, j3, j4, j5, j6⟩ := hmid base s1 a1 w1 b cs k3.re k4 k5
    have hi2 : Inv P base ws M s2 l r w2 := ⟨(hi.rel.back k3).back j3, j3.below.other l _ (k3.below.other l _ hi.rcd rfl) rfl⟩
    obtain ⟨o, g1, g2, g3, g4⟩ := shp_get (i := 6) h3 rfl
    have h11 : a2.tmps.getD 11 undef = .func (.yield l) #[] #[] := by
      have := j4 11
      rw [m11, q0] at this
      obtain ⟨a', c', e1, e2, e3⟩ := this.func_inv
      rw [e1]
      have ea : a' = #[] := by
        have hh := e2.length
        exact Array.toList_eq_nil_iff.1 (List.length_eq_zero_iff.1 hh.symm)
      have ec : c' = #[] := by
        have hh := e3.length
        exact Array.toList_eq_nil_iff.1 (List.length_eq_zero_iff.1 hh.symm)
      rw [ea, ec]
    have hy := step_yield (P := P) (b := b) (a := a2) (rest := [7]) (k := .code (.cond (.tmp 18) .ret .skip) :: .inBlock 1 :: .code (.region i2 o2 false) :: [.inLoop (lpB i1 i2 i3 o1 o2 o3), .inBlock 0]) (cs := cs) g1 g2 g4 h11 hi2.rcd hrs
    have henv : ∀ t, VR s2 (slot (putS (putS ρ (some p1) (.int .i64 (.ofNat i))) (some p2) x) t) (((r.tmps.setIfInBounds p1 (a2.tmps.getD 12 undef)).setIfInBounds p2 (a2.tmps.getD 16 undef)).getD t undef) := by
      rw [slot_put, slot_put]
      have b1 : VR s2 (.int .i64 (.ofNat i)) (a2.tmps.getD 12 undef) := by have := j4 12; rw [m12, q3'] at this; exact this
      have b2 : VR s2 x (a2.tmps.getD 16 undef) := by have := j4 16; rw [m16] at this; exact this
      have c1 := put_env (a := { tmps := r.tmps, defers := [] }) (dst := some p1) (fun t => ((hrt t).mono k1).mono j1) (fun d hd => by obtain rfl := Option.some.inj hd; rw [hrn]; exact hp1) b1
      exact put_env (a := ({ tmps := r.tmps, defers := [] } : Act).put (some p1) (a2.tmps.getD 12 undef)) (dst := some p2) c1 (fun d hd => by obtain rfl := Option.some.inj hd; rw [put_size, hrn]; exact hp2) b2
    obtain ⟨s3, w3, n1, n2, n3⟩ := rnd_spec hC hrnd hi2 hls hlb hr hra hrb hrp henv (by simp [hrn]) (b.atR a2 (.inRegion o3 [6, 7] :: .code (.cond (.tmp 18) .ret .skip) :: .inBlock 1 :: .code (.region i2 o2 false) :: [.inLoop (lpB i1 i2 i3 o1 o2 o3), .inBlock 0])) cs
    rw [Frame.finish_atR, g1] at n2
    simp only [Option.bind_some, g3] at n2
    have he3 : ∀ t, VR s3 ((ρ8.put (some 17) (.bool true)) t) ((a2.put (some 17) (.bool true)).tmps.getD t undef) := put_env (fun t => (j4 t).mono n1) (fun d hd => by obtain rfl := Option.some.inj hd; rw [j5]; decide) (.bool true)
    obtain ⟨ρ9, htail, u0, u1, u3⟩ := seg_tail (P := P) (i1 := i1) (i2 := i2) (i3 := i3) (o1 := o1) (M := M2) h3 h2 (ρ := ρ8.put (some 17) (.bool true)) (n := (i : Int)) (by rw [put_ne _ _ (by decide), m3, q3']; rfl) (put_eq _ _ _)
    obtain ⟨s4, a4, w4, v1, v2, v3, v4, v5, v6⟩ := htail base s3 (a2.put (some 17) (.bool true)) w3 b cs n3.rel.re he3 (by rw [put_size]; exact j5)
    rw [put_ne _ _ (by decide), m0, q0] at u0
    rw [put_ne _ _ (by decide), m1, q1] at u1
    rw [fw_small (by omega) (by omega)] at u3
    obtain ⟨s5, w5, a5, x1, x2, x3, x4, x5⟩ := back_loop hC hp1 hp2 h1 h3 h2 hls hlb hr hra hrb hrp hrn hrs i M2 M' (by omega) h ⟨n3.rel.back v3, v3.below.other l _ n3.rcd rfl⟩ (fun t => ((((hrt t).mono k1).mono j1).mono n1).mono v1) v4 v5 u0 u1 u3 b cs
    refine ⟨s5, w5, a5, Inj.le_trans k1 (Inj.le_trans j1 (Inj.le_trans n1 (Inj.le_trans v1 x1))), Steps.trans k2 (Steps.trans j2 (.head hy (Steps.trans n2 (Steps.trans v2 x2)))), x3, ?_, x5⟩
    rw [x4, v6, put_defers, j6, k6]
theorem _root_.Go.Am.Rel.allocObj {G : Nat} {base : Nat → Prop} {w0 w : World} {s : Inj} {aw : AW} (h : Rel G base w0 s aw w) (o : Obj) : Rel G base w0 s aw (w.alloc o) := by
  refine ⟨h.fresh, h.mfresh, fun b B hB => ?_, h.sep, fun k hk => by have := h.hbase k hk; simp only [World.size_alloc]; omega, h.glob, h.below.alloc h.hbase o⟩
  obtain ⟨e, cs, fz, h1, h2, h3, h4⟩ := h.blk b B hB
  exact ⟨e, cs, fz, h1, h2, by rw [Below.heap_alloc _ _ _ (Array.getElem?_eq_some_iff.1 h3).1]; exact h3, h4⟩
theorem eLen_slice {ρ : Env} {M : Mem} {T el : TypeId} {q : Option Addr} {L c : Nat} (hT : P.underlying T = some (.slice el)) (h : ρ 4 = .slice q L c) : eOp P ρ M (.call ⟨.builtin .len, #[.tmp 4], #[T]⟩) = some (.int .i64 (.ofNat L), M) := by
  show eLen P ρ M #[T] (.tmp 4) = _
  simp [eLen, hT, okv, h]
theorem ago_back (hC : CS P C) {fB : FuncId} {T e el : TypeId} (hB : IsBack P fB T e) {N : Nat} {k : List Item} {ρ : Go.Ri.T Value} {ds : List Deferred} {M M1 M' : Mem} {R : ADone → Env → List Deferred → AW → Prop} {g : Operand} {p1 p2 : Nat} {assign body : Code} {bx L c : Nat} {q : Option Addr}
    (hg : okv P.globals.size (slot ρ) g = some (.func (.func fB) ⟨[]⟩ ⟨[.pointer (some ⟨bx, 0, none⟩)]⟩)) (hT : P.underlying T = some (.slice el))
    (hs : eLoad P (fun _ => .pointer (some ⟨bx, 0, none⟩)) M T (.tmp 0) = some (.slice q L c, M1)) (hL : L ≤ 4611686018427387904) (hp1 : p1 < N) (hp2 : p2 < N)
    (hr : bkRun P C N T e p1 p2 assign body bx ρ L L M = some M') (h : AGo P N k (slot ρ) ds M'.abs R) : AGo P N (.code (.rangeFunc g #[p1, p2] assign body) :: k) (slot ρ) ds M.abs R := by
  obtain ⟨fn, i0, i1, i2, i3, o0, o1, o2, o3, ti, tj, tk, tl, tm, tn, ts, hfn, hname, hnt, hres, hbody, h0, h1, h3, h2⟩ := hB.ex
  intro base w0 s a w b cs hst
  have hM1 : M1 = M := quiet_spec (P := P) (ρ := fun _ => .pointer (some ⟨bx, 0, none⟩)) (op := .load T (.tmp 0)) rfl hs
  subst hM1
  let b0 : Frame := { b with roundOf := none }
  have hat : ∀ (a : Act) (t : List Item), b.at a t = b0.atR a t := fun a t => (Frame.atR_of_none (b := b0) rfl a t).symm
  obtain ⟨g1, g2⟩ := okv_spec hg
  have hv := hst.eval g1
  rw [g2] at hv
  obtain ⟨a', c', e1, e2, e3⟩ := hv.func_inv
  have ea : a' = #[] := Array.toList_eq_nil_iff.1 (List.length_eq_zero_iff.1 e2.length.symm)
  subst ea
  obtain ⟨x, rfl⟩ : ∃ x, c' = #[x] := by
    have := e3.length
    rcases c' with ⟨l⟩
    match l, this with
    | [x], _ => exact ⟨x, rfl⟩
  have hx : VR s (.pointer (some ⟨bx, 0, none⟩)) x := by cases e3 with | cons h t => exact h
  let wd : World := w.alloc (.deferred (some []))
  let l : Nat := w.heap.size + 1
  let r : Loop := { state := .ready, pending := none, fn := b0.fn, tmps := a.tmps, params := #[p1, p2], assign, body, defers := w.heap.size }
  let w1 : World := wd.alloc (.loop r)
  let mk : Deferred := { target := .collected w.heap.size, args := #[] }
  have hel : (Instr.enterLoop b0.fn a.tmps #[p1, p2] assign body b0.roundOf).run P w = .ok (l, [mk]) w1 := run_enterLoop_outer ..
  have hres' : (resolve a.eval (rangeCall g l) 0).run P w1 = .ok { target := .fn (.func fB) #[x], args := #[.func (.yield l) #[] #[]] } w1 := by
    have hc : a.eval (.const (.func (.yield l) #[] #[])) = .func (.yield l) #[] #[] := rfl
    simp [resolve, rangeCall, e1, hc, Deferred.ofValue]
  have hinv : (invoke (.fn (.func fB) #[x]) #[.func (.yield l) #[] #[]]).run P w1 = .ok (.enter fB #[.func (.yield l) #[] #[], x]) w1 := by
    simp only [invoke]
    rw [run_callFunc hfn hname hbody]
    rfl
  have hs0 := stepR_rangeFunc (P := P) (b := b0) (a := a) (k := k) (cs := cs) (w := w) hel hres' hinv
  have hsz : wd.heap.size = l := by simp [wd, l]
  have hr1 : Rel P.globals.size base wd s M1.abs w1 := (hst.rel.re.allocObj _).re.allocObj _
  have hrd : w1.heap[l]? = some (.loop r) := by
    rw [← hsz]; exact World.alloc_heap_new wd _
  have hlb : ¬ base l := fun hb => by have := hst.rel.hbase l hb; simp only [l] at this; omega
  obtain ⟨henv, hnn⟩ := init_env (s := s) (args := [.func (.yield l) #[] #[], .pointer (some ⟨bx, 0, none⟩)]) (args' := [.func (.yield l) #[] #[], x]) (N := 19) (.cons (.func _ .nil .nil) (.cons hx .nil)) (by simp)
  let b2 : Frame := { (default : Frame) with fn := fB, kind := .normal, roundOf := none }
  let a2 : Act := { tmps := #[.func (.yield l) #[] #[], x] ++ Array.replicate (19 - 2) undef, defers := [] }
  have henter : Frame.enter P fB #[.func (.yield l) #[] #[], x] .normal = b2.atR a2 [.code (.seq (.region i0 o0 false) (.block 0 (.loop (lpB i1 i2 i3 o1 o2 o3))))] := by
    simp [Frame.enter, Frame.atR, hfn, hbody, hnt, b2, a2]
  have seg0 : Seg P 19 [.code (.seq (.region i0 o0 false) (.block 0 (.loop (lpB i1 i2 i3 o1 o2 o3))))] (lpH i1 i2 i3 o1 o2 o3) (Env.init [.func (.yield l) #[] #[], .pointer (some ⟨bx, 0, none⟩)])
      (((((Env.init [.func (.yield l) #[] #[], .pointer (some ⟨bx, 0, none⟩)]).put (some 4) (.slice q L c)).put (some 5) (.int .i64 (.ofNat L))).put (some 6) (.int .i64 (fw .i64 (.ofNat L - 1)))).put (some 3) (.int .i64 (fw .i64 (.ofNat L - 1)))) M1.abs M1.abs := by
    refine (Seg.one fun _ _ _ _ => stepR_seq).trans ?_
    refine (Seg.regionN (shp_size h0)).trans ?_
    refine (Seg.shp (N := 19) (i := 0) (rest := [1, 2, 3]) h0 rfl (by decide) (fun c => by simp) (v := .slice q L c) (M' := M1) ?_).trans ?_
    · show eLoad P _ M1 T (.tmp 1) = _
      rw [← hs]; exact eLoad_eq rfl
    refine (Seg.shp (N := 19) (i := 1) (rest := [2, 3]) h0 rfl (by decide) (fun c => by simp) (M' := M1) (eLen_slice hT (put_eq _ _ _))).trans ?_
    refine (Seg.shp (N := 19) (i := 2) (rest := [3]) h0 rfl (by decide) (fun c => by simp) (M' := M1) (eBin_sub (n := .ofNat L) (put_eq _ _ _) _)).trans ?_
    refine (Seg.shp (N := 19) (i := 3) (rest := []) h0 rfl (by decide) (fun c => by simp) (v := .int .i64 (fw .i64 (.ofNat L - 1))) (M' := M1) ?_).trans ?_
    · show some _ = some _
      rw [put_eq]
    refine Seg.regionEnd.trans ?_
    exact (Seg.one fun _ _ _ _ => stepR_block).trans (Seg.one fun _ _ _ _ => stepR_loop)
  obtain ⟨s1, a3, w2, k1, k2, k3, k4, k5, k6⟩ := seg0 base s a2 w1 b2 (b0.atR { a with defers := [mk] ++ a.defers } (.inRangeFunc l :: k) :: cs) hr1.re henv hnn
  obtain ⟨s2, w3, a4, j1, j2, j3, j4, j5⟩ := back_loop hC hp1 hp2 h1 h3 h2 (Nat.le_of_eq hsz) hlb rfl rfl rfl rfl hst.size rfl L M1 M' hL hr ⟨hr1.back k3, k3.below.other l _ hrd rfl⟩ (fun t => (hst.env t).mono k1) k4 k5
    (by simp only [Env.put_some]; rfl) (by simp only [Env.put_some]; rfl) (by rw [put_eq, fw_small (by have : (0 : Int) ≤ Int.ofNat L := Int.natCast_nonneg L; omega) (by have : Int.ofNat L = (L : Int) := rfl; omega)]; rfl) b2 (b0.atR { a with defers := [mk] ++ a.defers } (.inRangeFunc l :: k) :: cs)
  have hs1 : step P (lone (b2.atR a4 []) (b0.atR { a with defers := [mk] ++ a.defers } (.inRangeFunc l :: k) :: cs) w3) = .next (lone { b2.atR a4 [] with mode := .returning } _ w3) := stepR_end rfl
  obtain ⟨v', hv1, _⟩ := ares_0 (P := P) (N := 19) (ρ := fun _ => undef) (aw := M'.abs) hres base wd s2 (Array.replicate 19 undef) w3 j3.rel (fun t => by
    have : (Array.replicate 19 undef).getD t undef = undef := by simp [Array.getD]
    rw [this]; exact VR.undef) (by simp)
  have hlv : Frame.leaving P { b2.atR a4 [] with mode := .returning } w3 (.returned v') := by
    refine ⟨rfl, by show a4.defers = []; rw [j4, k6], rfl, fn, hfn, ?_⟩
    have hi : ∀ t1 t2, results fn t1 = results fn t2 := fun t1 t2 => by unfold results; rw [hres]; simp
    rw [hi _ (Array.replicate 19 undef)]
    exact hv1
  have hs2 := step_leave_returned (c := b0.atR { a with defers := [mk] ++ a.defers } (.inRangeFunc l :: k)) (cs := cs) hlv
  rw [finish_atR_inRangeFunc] at hs2
  have hend := run_endLoop (P := P) j3.rcd (by simp [r])
  have hs3 := stepR_endRangeFunc (P := P) (b := b0) (a := { a with defers := [mk] ++ a.defers }) (k := k) (cs := cs) hend
  have hr4 : Rel P.globals.size base wd s2 M'.abs (w3.putObj l (.loop { r with state := .exhausted })) := j3.rel.putObj j3.rcd rfl (Nat.le_of_eq hsz) hlb _
  have hwd : Keep base w wd := (Keep.refl base w).alloc hst.rel.hbase _
  have hold : ∀ (r' : Nat) (o : Obj), wd.heap[r']? = some o → o.isCells = false → (w3.putObj l (.loop { r with state := .exhausted })).heap[r']? = some o := fun r' o ho hc => hr4.below.other r' o ho hc
  have hst4 : St P.globals.size base w0 s2 (slot ρ) N ds M'.abs { a with defers := [mk] ++ a.defers } (w3.putObj l (.loop { r with state := .exhausted })) := by
    refine ⟨?_, fun t => ((hst.env t).mono k1).mono j1, hst.size, .mark _ ((hst.dfr.mono k1).mono j1), ?_, ?_⟩
    · exact ⟨hr4.fresh, hr4.mfresh, hr4.blk, hr4.sep, hr4.hbase, hr4.glob, (hst.rel.below.trans hwd).trans hr4.below⟩
    · intro r' hr'
      have hr' : r' ∈ w.heap.size :: marks a.defers := hr'
      rcases List.mem_cons.1 hr' with rfl | hr'
      · refine ⟨⟨hst.rel.below.size, fun hb => Nat.lt_irrefl _ (hst.rel.hbase _ hb)⟩, hold _ _ (World.alloc_heap_new w _) rfl⟩
      · obtain ⟨m1, m2⟩ := hst.mrk r' hr'
        exact ⟨m1, hold _ _ (hwd.other r' _ m2 rfl) rfl⟩
    · show (w.heap.size :: marks a.defers).Nodup
      refine List.nodup_cons.2 ⟨fun hm => ?_, hst.nd⟩
      have := (Array.getElem?_eq_some_iff.1 (hst.mrk _ hm).2).1
      omega
  obtain ⟨m, t', a5, w5, q1, s5, d5, ρ5, ds5, aw5, q2, q3⟩ := h base w0 s2 _ _ b cs hst4
  refine ⟨m, t', a5, w5, ?_, s5, d5, ρ5, ds5, aw5, Inj.le_trans k1 (Inj.le_trans j1 q2), q3⟩
  rw [hat]
  refine .head hs0 ?_
  rw [henter]
  refine Steps.trans k2 (Steps.trans j2 (.head hs1 (.head hs2 (.head hs3 ?_))))
  rw [hat] at q1
  exact q1
end
end Go.Ri

set_option linter.unusedSimpArgs false
set_option linter.unusedVariables false
set_option linter.unusedSectionVars false
namespace Go.Ri
open Go Go.Am Go.RowKit
variable [SymE]
variable [FT] [FTok]
def dCells {H : Type} : Nat → DataW H → Option (List Value)
  | 0, _ => none
  | n + 1, d => match d with
    | .lit (.int k m) => some [.int k m]
    | .lit (.string l) => some [.string ⟨⟨l⟩⟩]
    | .lit (.bool b) => some [.bool b]
    | .agg ds => all n ds
    | _ => none
where
  all {H : Type} (n : Nat) : List (DataW H) → Option (List Value)
  | [] => some []
  | d :: r => match dCells n d, all n r with
    | some a, some b => some (a ++ b)
    | _, _ => none
noncomputable def mem0 (G : Nat) (l : List (Nat × List Value × TypeId)) : Mem := ⟨List.rec (motive := fun _ => T (Option RB)) .leaf (fun p _ ih => T.dn ih fun t => T.set (some ⟨T.ofL p.2.1 0 .leaf, p.2.1.length, p.2.2, 0, false⟩) t p.1) l, G⟩
end Go.Ri

set_option linter.unusedSimpArgs false
set_option linter.unusedVariables false
set_option linter.unusedSectionVars false
namespace Go.Ri
open Go Go.Am Go.RowKit
variable [SymE]
variable [FT] [FTok]
theorem _root_.Go.Am.Rel.later {G : Nat} {base : Nat → Prop} {w0 w w' : World} {s : Inj} {aw : AW} (h : Rel G base w0 s aw w) (hb : Keep (· < w.heap.size) w w') : Rel G base w0 s aw w' where
  fresh := h.fresh
  mfresh := h.mfresh
  blk b B hB := by
    obtain ⟨e, cs, fz, h1, h2, h3, h4⟩ := h.blk b B hB
    refine ⟨e, cs, fz, h1, h2, ?_, h4⟩
    rw [hb.block _ (Array.getElem?_eq_some_iff.1 h3).1]
    exact h3
  sep := h.sep
  hbase := fun k hk => Nat.lt_of_lt_of_le (h.hbase k hk) hb.size
  glob := h.glob
  below := h.below.trans (hb.mono h.hbase)
theorem plain_ER {s t : Inj} {v : Value} {e : Ending} (hp : plain v = true) (h : ER s (.returned v) e) : ER t (.returned v) e := by
  cases h with
  | returned h =>
    have := VR.eq_of_plain h hp
    subst this
    exact .returned (VR.ofPlain hp)
def Under (G : Nat) (aw0 aw : AW) : Prop := aw0.next = G ∧ ∀ b B, aw0.m b = some B → b < G ∧ aw.m b = some B ∧ B.rw = false ∧ plains B.cells = true
theorem acalls_apart {P : Program} {f : FuncId} {args : List Value} {aw0 aw aw1 : AW} {v : Value} (hu : Under P.globals.size aw0 aw) (ha : plains args = true) (hv : plain v = true)
    (h : ACalls P f args aw0 fun e aw' => e = .returned v ∧ aw' = aw1) : ACalls P f args aw fun e aw' => e = .returned v ∧ aw' = aw := by
  intro base w0 s args' w hr hargs
  have hargs' : args' = args := by
    have key : ∀ {l l' : List Value}, VRs s l l' → plains l = true → l' = l := by
      intro l
      induction l with
      | nil => intro l' h _; cases h; rfl
      | cons x l ih =>
        intro l' h hp
        cases h with
        | cons hx t =>
          simp only [plains, Bool.and_eq_true] at hp
          rw [VR.eq_of_plain hx hp.1, ih t hp.2]
    exact key hargs ha
  have r0 : Rel P.globals.size (· < w.heap.size) w (fun b => if b < P.globals.size then s b else none) aw0 w := by
    refine ⟨?_, ?_, ?_, ?_, (fun k hk => hk), ?_, Keep.refl _ _⟩
    · intro b hb
      rw [hu.1] at hb
      simp only [if_neg (show ¬ b < P.globals.size by omega)]
    · intro b hb
      cases hB : aw0.m b with
      | none => rfl
      | some B => have := (hu.2 b B hB).1; rw [hu.1] at hb; omega
    · intro b B hB
      obtain ⟨h1, h2, h3, h4⟩ := hu.2 b B hB
      obtain ⟨e, cs, fz, g1, g2, g3, g4, g5, g6, g7⟩ := hr.blk b B h2
      refine ⟨e, cs, fz, by simp only [if_pos h1]; exact g1, g2, g3, g4, g5, fun i u hi => ?_, fun h => by rw [h3] at h; cases h⟩
      obtain ⟨u', k1, k2⟩ := g6 i u hi
      have hp : plain u = true := by
        have key : ∀ (l : List Value) (i : Nat), plains l = true → l[i]? = some u → plain u = true := by
          intro l
          induction l with
          | nil => intro i _ h; simp at h
          | cons x l ih =>
            intro i hp h
            simp only [plains, Bool.and_eq_true] at hp
            cases i with
            | zero => simp at h; subst h; exact hp.1
            | succ i => exact ih i hp.2 (by simpa using h)
        exact key _ i h4 hi
      rw [VR.eq_of_plain k2 hp] at k1
      exact ⟨u, k1, VR.ofPlain hp⟩
    · intro b1 b2 B1 B2 e1 e2 _ hB1 _ _ _ hrw
      obtain ⟨_, _, h3, _⟩ := hu.2 b1 B1 hB1
      rw [h3] at hrw; cases hrw
    · intro g hg
      obtain ⟨e, h1, h2⟩ := hr.glob g hg
      exact ⟨e, by simp only [if_pos hg]; exact h1, h2⟩
  subst hargs'
  refine (h _ _ _ args' w r0 (VRs.ofPlains ha)).mono ?_
  rintro e w' ⟨s', ae, aw', _, hrel, her, hq, _⟩
  subst hq
  exact ⟨s, .returned v, aw, Inj.le_refl s, hr.later hrel.below, plain_ER hv her, rfl, rfl⟩
theorem run_apart {P : Program} {X : Exts} {tab : Nat → Tab} {n d : Nat} (hX : ExtOk P X) (hm : P.follows .mixedOrders = true) {f : FuncId} {args : List Value} {M M' : Mem} {v : Value} (hrun : callN P X tab n d f args M = some (.returned v, M'))
    (ha : plains args = true) (hv : plain v = true) {aw : AW} (hu : Under P.globals.size M.abs aw) {α : Type} {sh : α → Value} {r : α} (hs : v = sh r) {Q : α → AW → Prop} {E : List PanicEntry → AW → Prop} (hQ : Q r aw) : CallP P f args aw sh Q E := by
  refine ACalls.mono (acalls_apart hu ha hv (callN_spec hX hm d f args M _ _ hrun)) fun e aw' he => ?_
  obtain ⟨rfl, rfl⟩ := he
  exact ⟨r, hs, hQ⟩
end Go.Ri
namespace Go.Ri
open Go Go.Am Go.RowKit
variable [SymE]
theorem mem0_abs {G : Nat} : ∀ (l : List (Nat × List Value × TypeId)) (b : Nat) (B : Blk), (mem0 G l).abs.m b = some B → ∃ p ∈ l, p.1 = b ∧ B = ⟨p.2.1, p.2.2, 0, false, 0⟩
  | [], b, B, h => by
    have : (mem0 G []).abs.m b = none := by simp [Mem.abs, Mem.at, mem0, T.get_leaf]
    rw [this] at h; cases h
  | p :: l, b, B, h => by
    have hbl : (mem0 G (p :: l)).bl = T.set (some ⟨T.ofL p.2.1 0 .leaf, p.2.1.length, p.2.2, 0, false⟩) (mem0 G l).bl p.1 := by
      rfl
    simp only [Mem.abs, Mem.at, hbl, T.get_set] at h
    by_cases hb : b = p.1
    · rw [if_pos hb] at h
      simp only [Option.map_some, Option.some.injEq] at h
      refine ⟨p, by simp, hb.symm, ?_⟩
      rw [← h]
      simp only [RB.abs, Blk.mk.injEq, and_true]
      apply List.ext_getElem?
      intro k
      simp only [List.getElem?_map]
      rcases Nat.lt_or_ge k p.2.1.length with hk | hk
      · rw [List.getElem?_range hk]
        simp only [Option.map_some, T.get_ofL]
        rw [if_pos (by omega), Nat.sub_zero, List.getElem?_eq_getElem hk]; rfl
      · rw [List.getElem?_eq_none (by simp; omega), List.getElem?_eq_none hk]; rfl
    · rw [if_neg hb] at h
      obtain ⟨q, hq, h1, h2⟩ := mem0_abs l b B h
      exact ⟨q, by simp [hq], h1, h2⟩
theorem under_of {G : Nat} {l : List (Nat × List Value × TypeId)} {aw : AW} (h : ∀ p ∈ l, p.1 < G ∧ aw.m p.1 = some ⟨p.2.1, p.2.2, 0, false, 0⟩ ∧ plains p.2.1 = true) : Under G (mem0 G l).abs aw := by
  refine ⟨rfl, fun b B hB => ?_⟩
  obtain ⟨p, hp, rfl, rfl⟩ := mem0_abs l b B hB
  obtain ⟨h1, h2, h3⟩ := h p hp
  exact ⟨h1, h2, rfl, h3⟩
end Go.Ri

set_option linter.unusedSimpArgs false
set_option linter.unusedVariables false
set_option linter.unusedSectionVars false
namespace Go.Ri
open Go Go.Am Go.RowKit
noncomputable def cellsD {H : Type} (P : Program) : Nat → TypeId → DataW H → Option (List Value)
  | 0, _, _ => none
  | m + 1, t, d => match P.underlying t, d with
    | some .bool, .lit (.bool b) => some [.bool b]
    | some (.int k), .lit (.int k' n) => if k' = k then some [.int k n] else none
    | some .string, .lit (.string l) => some [.string ⟨⟨l⟩⟩]
    | some (.array n e), .agg ds => if ds.length = n ∧ P.cellsOf t = n * P.cellsOf e then all m e ds else none
    | _, _ => none
where
  all {H : Type} (m : Nat) (e : TypeId) : List (DataW H) → Option (List Value)
  | [] => some []
  | d :: r => match cellsD P m e d, all m e r with
    | some a, some b => if a.length = P.cellsOf e then some (a ++ b) else none
    | _, _ => none
theorem cellsD_spec {H : Type} {enc : TypeId × Value → H} {P : Program} {w : World} {base : Nat} {spare : Nat → Bool} {held : Bool} : ∀ {m fuel : Nat} {t : TypeId} {d : DataW H} {l cs : List Value} {p : List MemPlace}, cellsD P m t d = some l →
    DataW.trod enc P w base spare held fuel t cs = some (d, p) → cs = l
  | 0, _, _, _, _, _, _, h, _ => by simp [cellsD] at h
  | m + 1, fuel, t, d, l, cs, p, h, hd => by
    unfold cellsD at h
    split at h
    · rename_i b hu
      simp only [Option.some.injEq] at h; subst h
      obtain ⟨b', rfl, e⟩ := DataW.trod_bool hu hd
      simp only [Prod.mk.injEq, DataW.lit.injEq, Lit.bool.injEq] at e
      rw [e.1]
    · rename_i k k' n hu
      split at h
      · rename_i hk; subst hk
        simp only [Option.some.injEq] at h; subst h
        obtain ⟨b', rfl, e, _⟩ := DataW.trod_int hu hd
        simp only [Prod.mk.injEq, DataW.lit.injEq, Lit.int.injEq, true_and] at e
        rw [e.1]
      · cases h
    · rename_i s hu
      simp only [Option.some.injEq] at h; subst h
      obtain ⟨b', rfl, e, _⟩ := DataW.trod_string hu hd
      simp only [Prod.mk.injEq, DataW.lit.injEq, Lit.string.injEq] at e
      rw [e.1]
    · rename_i n e ds hu
      split at h
      · rename_i hn
        obtain ⟨hn1, hn2⟩ := hn
        obtain ⟨xs, q, rfl, hx, hlen, hxn, hel⟩ := DataW.trod_array hu hd
        simp only [Prod.mk.injEq, DataW.agg.injEq] at hx
        have key : ∀ (ds : List (DataW H)) (cs l : List Value), (∀ i d, ds[i]? = some d → ∃ p, DataW.trod enc P w base spare held q e ((cs.drop (i * P.cellsOf e)).take (P.cellsOf e)) = some (d, p)) → cs.length = ds.length * P.cellsOf e →
            cellsD.all P m e ds = some l → cs = l := by
          intro ds
          induction ds with
          | nil =>
            intro cs l _ hl ha
            simp only [cellsD.all, Option.some.injEq] at ha
            simp at hl
            rw [← ha, hl]
          | cons d r ih =>
            intro cs l hh hl ha
            rw [cellsD.all] at ha
            split at ha
            · rename_i a b h1 h2
              split at ha
              · rename_i hal
                simp only [Option.some.injEq] at ha
                subst ha
                obtain ⟨p0, e0⟩ := hh 0 d rfl
                simp only [Nat.zero_mul, List.drop_zero] at e0
                have ea := cellsD_spec h1 e0
                have eb := ih (cs.drop (P.cellsOf e)) b (fun i d' hd' => by
                  obtain ⟨p', e'⟩ := hh (i + 1) d' (by simpa using hd')
                  rw [Nat.add_mul, Nat.one_mul, Nat.add_comm, ← List.drop_drop] at e'
                  exact ⟨p', e'⟩) (by rw [List.length_drop, hl, List.length_cons, Nat.add_mul]; omega) h2
                rw [← ea, ← eb, List.take_append_drop]
              · cases ha
            · cases ha
        refine key ds cs l (fun i d' hd' => ?_) (by rw [hlen, hn2, hn1]) h
        have hi : i < n := by
          have := (List.getElem?_eq_some_iff.1 hd').1
          omega
        have := hel i hi
        rw [hx.1, List.getElem?_map] at hd'
        cases hxi : xs[i]? with
        | none => rw [hxi] at hd'; cases hd'
        | some x =>
          rw [hxi] at hd' this
          simp only [Option.map_some, Option.some.injEq] at hd'
          obtain ⟨x1, x2⟩ := x
          simp only at hd'
          subst hd'
          exact ⟨x2, this⟩
      · cases h
    · cases h
variable [SymE]
theorem laid_cells {P : Program} {W : World} {L : List (String × DataW Unit)} {ps : List MemPlace} (hL : DataW.LaidVars P W L ps) {n : String} {d : DataW Unit} (hm : (n, d) ∈ L) {g t m : Nat} {cells : List Value}
    (hg : P.globalNamed n = some g) (ht : (P.globals[g]?).map (·.type) = some t) (hc : cellsD P m t d = some cells) : ∃ t1 cs fz, W.heap[g]? = some (.cells cs t1 fz) ∧ cs.toList = cells := by
  obtain ⟨g', t', cs, fuel, p, h1, h2, h3, h4⟩ := laid_get hL n d hm
  obtain rfl := Option.some.inj (hg.symm.trans h1)
  obtain rfl := Option.some.inj (ht.symm.trans h2)
  obtain ⟨t1, fz, h5⟩ := var_heap hg h3
  exact ⟨t1, cs, fz, h5, cellsD_spec hc h4⟩
theorem rel_mem0 {G : Nat} {W : World} {l : List (Nat × List Value × TypeId)} (h : ∀ p ∈ l, p.1 < G ∧ (∃ cs fz, W.heap[p.1]? = some (.cells cs p.2.2 fz) ∧ cs.toList = p.2.1) ∧ plains p.2.1 = true) :
    Rel G (· < W.heap.size) W (inj0 G W []) (mem0 G l).abs W := by
  have r := rel_start G W []
  refine ⟨r.fresh, fun b hb => ?_, fun b B hB => ?_, fun b1 b2 B1 B2 e1 e2 _ hB1 _ _ _ hrw => ?_, r.hbase, r.glob, r.below⟩
  · cases hB : (mem0 G l).abs.m b with
    | none => rfl
    | some B =>
      obtain ⟨p, hp, rfl, _⟩ := mem0_abs l b B hB
      have := (h p hp).1
      have hb' : G ≤ p.1 := hb
      omega
  · obtain ⟨p, hp, rfl, rfl⟩ := mem0_abs l b B hB
    obtain ⟨h1, ⟨cs, fz, h2, h3⟩, h4⟩ := h p hp
    have hsz : cs.size = csz W p.1 := by simp [csz, h2]
    have hl : cs.size = p.2.1.length := by rw [← h3]; simp
    refine ⟨⟨p.1, 0, csz W p.1, 0⟩, cs, fz, by simp [inj0, h1], ⟨rfl, (fun h => by cases h), fun _ => ⟨rfl, by simp only; omega⟩⟩, h2, hsz, by simp only; omega, fun i v hi => ⟨v, ?_, ?_⟩, fun h => by cases h⟩
    · simp only at hi ⊢
      rw [Nat.zero_add, ← hi, ← h3]; simp
    · refine VR.ofPlain ?_
      have key : ∀ (l : List Value) (i : Nat), plains l = true → l[i]? = some v → plain v = true := by
        intro l
        induction l with
        | nil => intro i _ h; simp at h
        | cons x l ih =>
          intro i hp h
          simp only [plains, Bool.and_eq_true] at hp
          cases i with
          | zero => simp at h; subst h; exact hp.1
          | succ i => exact ih i hp.2 (by simpa using h)
      exact key _ i h4 hi
  · obtain ⟨p, hp, rfl, rfl⟩ := mem0_abs l b1 B1 hB1
    cases hrw
structure Facts where
  bins : List (BinOp × Value × Value × Value) := []
  uns : List (UnOp × Value × Value) := []
  convs : List (IntKind × Value × Value) := []
  lens : List (Value × Value) := []
noncomputable def lookB (l : List (BinOp × Value × Value × Value)) (op : BinOp) (u w : Value) : Option Value := List.rec (motive := fun _ => Option Value) none
  (fun e _ ih => bif decide (e.1 = op) && (vEq 2 e.2.1 u && vEq 2 e.2.2.1 w) then some e.2.2.2 else ih) l
noncomputable def lookU (l : List (UnOp × Value × Value)) (op : UnOp) (u : Value) : Option Value := List.rec (motive := fun _ => Option Value) none
  (fun e _ ih => bif decide (e.1 = op) && vEq 2 e.2.1 u then some e.2.2 else ih) l
noncomputable def lookC (l : List (IntKind × Value × Value)) (j : IntKind) (u : Value) : Option Value := List.rec (motive := fun _ => Option Value) none
  (fun e _ ih => bif decide (e.1 = j) && vEq 2 e.2.1 u then some e.2.2 else ih) l
noncomputable def lookL (l : List (Value × Value)) (u : Value) : Option Value := List.rec (motive := fun _ => Option Value) none
  (fun e _ ih => bif vEq 2 e.1 u then some e.2 else ih) l
@[reducible] noncomputable def ftOf (F : Facts) : FT := ⟨lookB F.bins, lookU F.uns, lookC F.convs, lookL F.lens⟩
theorem lookB_spec {op : BinOp} {u w v : Value} : ∀ {l : List (BinOp × Value × Value × Value)}, lookB l op u w = some v → (op, u, w, v) ∈ l
  | [], h => by cases h
  | (op', u', w', v') :: l, h => by
    have h : (bif decide (op' = op) && (vEq 2 u' u && vEq 2 w' w) then some v' else lookB l op u w) = some v := h
    cases hb : decide (op' = op) && (vEq 2 u' u && vEq 2 w' w) with
    | true =>
      rw [hb] at h
      simp only [cond_true, Option.some.injEq] at h
      simp only [Bool.and_eq_true, decide_eq_true_eq] at hb
      rw [hb.1, vEq_spec _ _ _ hb.2.1, vEq_spec _ _ _ hb.2.2, h]
      exact List.mem_cons_self ..
    | false =>
      rw [hb] at h
      exact List.mem_cons_of_mem _ (lookB_spec h)
theorem lookU_spec {op : UnOp} {u v : Value} : ∀ {l : List (UnOp × Value × Value)}, lookU l op u = some v → (op, u, v) ∈ l
  | [], h => by cases h
  | (op', u', v') :: l, h => by
    have h : (bif decide (op' = op) && vEq 2 u' u then some v' else lookU l op u) = some v := h
    cases hb : decide (op' = op) && vEq 2 u' u with
    | true =>
      rw [hb] at h
      simp only [cond_true, Option.some.injEq] at h
      simp only [Bool.and_eq_true, decide_eq_true_eq] at hb
      rw [hb.1, vEq_spec _ _ _ hb.2, h]
      exact List.mem_cons_self ..
    | false =>
      rw [hb] at h
      exact List.mem_cons_of_mem _ (lookU_spec h)
theorem lookC_spec {op : IntKind} {u v : Value} : ∀ {l : List (IntKind × Value × Value)}, lookC l op u = some v → (op, u, v) ∈ l
  | [], h => by cases h
  | (op', u', v') :: l, h => by
    have h : (bif decide (op' = op) && vEq 2 u' u then some v' else lookC l op u) = some v := h
    cases hb : decide (op' = op) && vEq 2 u' u with
    | true =>
      rw [hb] at h
      simp only [cond_true, Option.some.injEq] at h
      simp only [Bool.and_eq_true, decide_eq_true_eq] at hb
      rw [hb.1, vEq_spec _ _ _ hb.2, h]
      exact List.mem_cons_self ..
    | false =>
      rw [hb] at h
      exact List.mem_cons_of_mem _ (lookC_spec h)
theorem lookL_spec {u v : Value} : ∀ {l : List (Value × Value)}, lookL l u = some v → (u, v) ∈ l
  | [], h => by cases h
  | (u', v') :: l, h => by
    have h : (bif vEq 2 u' u then some v' else lookL l u) = some v := h
    cases hb : vEq 2 u' u with
    | true =>
      rw [hb] at h
      simp only [cond_true, Option.some.injEq] at h
      rw [vEq_spec _ _ _ hb, h]
      exact List.mem_cons_self ..
    | false =>
      rw [hb] at h
      exact List.mem_cons_of_mem _ (lookL_spec h)
noncomputable def conv0 (j : IntKind) : Value → Option Value
  | .int _ m => some (.int j (fw j m))
  | _ => none
noncomputable def len0 : Value → Option Value
  | .string ⟨⟨l⟩⟩ => some (.int .i64 (.ofNat l.length))
  | _ => none
structure Facts.ok (F : Facts) : Prop where
  bins : ∀ e ∈ F.bins, bin0 e.1 (den e.2.1) (den e.2.2.1) = some (den e.2.2.2)
  uns : ∀ e ∈ F.uns, un0 e.1 (den e.2.1) = some (den e.2.2)
  convs : ∀ e ∈ F.convs, conv0 e.1 (den e.2.1) = some (den e.2.2)
  lens : ∀ e ∈ F.lens, len0 (den e.1) = some (den e.2)
theorem ftOk {F : Facts} (h : F.ok) : @FTok _ (ftOf F) := @FTok.mk _ (ftOf F)
  (fun op u w v hl => h.bins _ (lookB_spec hl))
  (fun op u v hl => h.uns _ (lookU_spec hl))
  (fun j u v hl => by
    have := h.convs _ (lookC_spec hl)
    simp only at this
    unfold conv0 at this
    split at this
    · rename_i k m he
      simp only [Option.some.injEq] at this
      exact ⟨k, m, he, this.symm⟩
    · cases this)
  (fun u v hl => by
    have := h.lens _ (lookL_spec hl)
    simp only at this
    unfold len0 at this
    split at this
    · rename_i l he
      simp only [Option.some.injEq] at this
      exact ⟨l, he, this.symm⟩
    · cases this)
noncomputable def retB : Option (AEnd × Mem) → Bool
  | some (.returned (.bool b), _) => b
  | _ => false
theorem retB_some {x : Option (AEnd × Mem)} (h : retB x = true) : ∃ M', x = some (.returned (.bool true), M') := by
  unfold retB at h
  split at h
  · rename_i b M'
    subst h; exact ⟨M', rfl⟩
  · cases h
theorem run_law {P : Program} {X : Exts} {tab : Nat → Tab} {n d : Nat} {F : Facts} (hF : F.ok) (hX : ExtOk P X) (hm : P.follows .mixedOrders = true) {f : FuncId} {sargs vs : List Value} {l : List (Nat × List Value × TypeId)} {W : World}
    (hG : ∀ p ∈ l, p.1 < P.globals.size ∧ (∃ cs fz, W.heap[p.1]? = some (.cells cs p.2.2 fz) ∧ cs.toList = p.2.1) ∧ plains p.2.1 = true) (hv : VRs (inj0 P.globals.size W []) sargs vs)
    (hrun : retB (@callN (ftOf F) P X tab n d f sargs (mem0 P.globals.size l)) = true) : Calls P f vs.toArray W fun e w' => e = .returned (.bool true) ∧ Below W.heap.size W w' := by
  letI : FT := ftOf F
  haveI : FTok := ftOk hF
  obtain ⟨M', hM⟩ := retB_some hrun
  have h := callN_spec hX hm d f sargs _ _ _ hM
  refine (h _ _ _ vs W (rel_mem0 hG) hv).mono ?_
  rintro e w' ⟨s', ae, aw', _, hr', her, rfl, _⟩
  cases her with
  | returned h =>
    cases h
    exact ⟨rfl, hr'.below.below⟩
end Go.Ri

set_option linter.unusedSimpArgs false
set_option linter.unusedVariables false
set_option linter.unusedSectionVars false
namespace Go.Ri
open Go Go.Am Go.RowKit
variable [SymE]
noncomputable def stand (M : Mem) (l : List (Nat × List Value)) : Bool := List.rec (motive := fun _ => Bool) true
  (fun p _ ih => match M.at p.1 with
    | none => false
    | some B => bif Nat.beq B.len p.2.length && (Nat.beq B.esz 0 && !B.rw) then (match B.getN p.2.length 0 with
      | none => false
      | some cs => bif vEq.lEq (vEq 2) cs p.2 then ih else false) else false) l
def withT (ts : List TypeId) (l : List (Nat × List Value)) : List (Nat × List Value × TypeId) := (l.zip ts).map fun p => (p.1.1, p.1.2, p.2)
theorem stand_spec {M : Mem} : ∀ {l : List (Nat × List Value)}, stand M l = true → ∃ ts : List TypeId, ts.length = l.length ∧ ∀ p ∈ withT ts l, M.abs.m p.1 = some ⟨p.2.1, p.2.2, 0, false, 0⟩
  | [], _ => ⟨[], rfl, by simp [withT]⟩
  | (g, cells) :: l, h => by
    have h : (match M.at g with
      | none => false
      | some B => bif Nat.beq B.len cells.length && (Nat.beq B.esz 0 && !B.rw) then (match B.getN cells.length 0 with
        | none => false
        | some cs => bif vEq.lEq (vEq 2) cs cells then stand M l else false) else false) = true := h
    split at h
    · cases h
    rename_i B hB
    cases hc : Nat.beq B.len cells.length && (Nat.beq B.esz 0 && !B.rw) with
    | false => rw [hc] at h; cases h
    | true =>
      rw [hc] at h
      simp only [cond_true] at h
      split at h
      · cases h
      rename_i cs hcs
      cases hv : vEq.lEq (vEq 2) cs cells with
      | false => rw [hv] at h; cases h
      | true =>
        rw [hv] at h
        simp only [cond_true] at h
        obtain ⟨ts, h1, h2⟩ := stand_spec h
        simp only [Bool.and_eq_true, Nat.beq_eq, Bool.not_eq_true'] at hc
        obtain ⟨c1, c2, c3⟩ := hc
        refine ⟨B.elem :: ts, by simp [h1], fun p hp => ?_⟩
        simp only [withT, List.zip_cons_cons, List.map_cons, List.mem_cons] at hp
        rcases hp with rfl | hp
        · simp only
          rw [M.abs_m hB]
          have hlen : B.abs.cells.length = cells.length := by rw [B.abs_len]; exact c1
          have hg := RB.getN_spec hB (i := 0) (by omega) hcs
          have e := lEq_spec (vEq_spec 2) hv
          subst e
          have hcells : B.abs.cells = cs := by
            have hw := getN_whole (M.abs_m hB)
            rw [hlen, hg] at hw
            exact (Option.some.inj hw).symm
          rw [← hcells]
          simp only [RB.abs, Option.some.injEq, Blk.mk.injEq, and_true, true_and]
          exact ⟨c2, c3⟩
        · exact h2 p hp
theorem run_lawS {P : Program} {X : Exts} {tab : Nat → Tab} {n d : Nat} {F : Facts} (hF : F.ok) (hP : okP tab P.funcs.toList 0 = true) (hX : ExtOk P X) (hm : P.follows .mixedOrders = true) {f : FuncId} {sargs vs : List Value} {l : List (Nat × List Value × TypeId)} {W : World}
    (hG : ∀ p ∈ l, p.1 < P.globals.size ∧ (∃ cs fz, W.heap[p.1]? = some (.cells cs p.2.2 fz) ∧ cs.toList = p.2.1) ∧ plains p.2.1 = true) (hv : VRs (inj0 P.globals.size W []) sargs vs)
    (hrun : retB (@callS (ftOf F) P X tab n d f sargs (mem0 P.globals.size l)) = true) : Calls P f vs.toArray W fun e w' => e = .returned (.bool true) ∧ Below W.heap.size W w' := by
  letI : FT := ftOf F
  haveI : FTok := ftOk hF
  obtain ⟨M', hM⟩ := retB_some hrun
  have h := callS_spec hP hX hm d f sargs _ _ _ hM
  refine (h _ _ _ vs W (rel_mem0 hG) hv).mono ?_
  rintro e w' ⟨s', ae, aw', _, hr', her, rfl, _⟩
  cases her with
  | returned h =>
    cases h
    exact ⟨rfl, hr'.below.below⟩
theorem args_in {P : Program} {H : Type} {enc : TypeId × Value → H} {W : World} {l : List TypeId} (hl : okTypes P l = true) {ts : List TypeId} {vs : List Value} {ds : List (DataW H)} {ps : List MemPlace} (hts : (ts.all fun t => l.contains t) = true)
    (hA : DataW.TrodAll enc P W 0 (fun _ => true) true ts vs ds ps) (hw : (DataW.weightsEach P ts ds).all (· ≤ reachBytes) = true)
    (hv : ∀ (j : Nat) t v, ts[j]? = some t → vs[j]? = some v → ∃ base, Value.okWide P W .any base t v) : ∃ (s : Inj) (aw : AW) (vs' : List Value), ArgsIn P aw ts vs' ∧ VRs s vs' vs := by
  have r0 : Rel P.globals.size (· < W.heap.size) W (inj0 P.globals.size W []) (mem0 P.globals.size []).abs W := rel_mem0 (l := []) (fun p hp => by cases hp)
  obtain ⟨s', aw', vs', _, _, _, _, h5, h6⟩ := open_args hl ts vs ds ps hts hA hw hv _ _ r0 (fun c C hc => by
    obtain ⟨p, hp, _⟩ := mem0_abs [] c C hc
    cases hp)
  exact ⟨s', aw', vs', h6, h5⟩
end Go.Ri

set_option linter.unusedSimpArgs false
set_option linter.unusedVariables false
set_option linter.unusedSectionVars false
namespace Go.Ri
open Go Go.Am Go.RowKit
variable [SymE] [FT] [FTok]
abbrev RBs := FuncId → Option (TypeId × TypeId)
def RBok (P : Program) (RB : RBs) : Prop := ∀ f tS e, RB f = some (tS, e) → IsBack P f tS e
noncomputable def rgOf (l : List Item) : Option (Operand × Nat × Nat × Code × Code × List Item) := match silT 60 l with
  | .code c :: k => (match c with
    | .rangeFunc g ⟨[p1, p2]⟩ assign body => some (g, p1, p2, assign, body, k)
    | _ => none)
  | _ => none
noncomputable def rgK (P : Program) (C : Caller) (RB : RBs) (N : Nat) (g : Operand) (p1 p2 : Nat) (assign body : Code) (k : List Item) (ρ : T Value) (ds : List Deferred) (M : Mem) : SR := match okv P.globals.size (slot ρ) g with
  | some (.func (.func fB) ⟨[]⟩ ⟨[.pointer (some ⟨bx, 0, none⟩)]⟩) => (match RB fB with
    | some (tS, e) => (match P.underlying tS with
      | some (.slice el) => (match eLoad P (fun _ => .pointer (some ⟨bx, 0, none⟩)) M tS (.tmp 0) with
        | some (.slice q L c, _) => bif Nat.ble L 4611686018427387904 && (Nat.blt p1 N && Nat.blt p2 N) then (match bkRun P C N tS e p1 p2 assign body bx ρ L L M with
          | some M' => .go k ρ ds M'
          | none => .bad) else .bad
        | _ => .bad)
      | _ => .bad)
    | none => .bad)
  | _ => .bad
noncomputable def stepR (P : Program) (X : Exts) (RB : RBs) (N : Nat) (tab : Tab) (rs : List Tmp) (todo : List Item) : StK := match rgOf todo with
  | none => stepC P X tab rs todo
  | some (g, p1, p2, assign, body, k) => ⟨fun C ρ ds M => rgK P C RB N g p1 p2 assign body k ρ ds M⟩
noncomputable def step3 (P : Program) (X : Exts) (C : Caller) (RB : RBs) (N : Nat) (tab : Tab) (rs : List Tmp) (todo : List Item) (ρ : T Value) (ds : List Deferred) (M : Mem) : SR := Cx.rec (motive := fun _ => SR) (fun f => f C ρ ds M) (stepR P X RB N tab rs todo)
theorem step3_eq (P : Program) (X : Exts) (C : Caller) (RB : RBs) (N : Nat) (tab : Tab) (rs : List Tmp) (todo : List Item) (ρ : T Value) (ds : List Deferred) (M : Mem) : step3 P X C RB N tab rs todo ρ ds M = match rgOf todo with
  | none => step2 P X C tab rs todo ρ ds M
  | some (g, p1, p2, assign, body, k) => rgK P C RB N g p1 p2 assign body k ρ ds M := by
  show (stepR P X RB N tab rs todo).f C ρ ds M = _
  unfold stepR
  split <;> rfl
theorem step3_spec {P : Program} {X : Exts} {C : Caller} {RB : RBs} {N : Nat} {tab : Tab} {rs : List Tmp} {R : ADone → Env → List Deferred → AW → Prop} (hX : ExtOk P X) (hRB : RBok P RB) (hC : CS P C) (hm : P.follows .mixedOrders = true) {todo : List Item} (hok : okL tab N todo) {ρ : T Value} {ds : List Deferred} {M : Mem} :
    ((step3 P X C RB N tab rs todo ρ ds M).holds P N rs R → AGo P N todo (slot ρ) ds M.abs R) ∧ (step3 P X C RB N tab rs todo ρ ds M).okS tab N := by
  rw [step3_eq]
  split
  · exact step2_spec hX hC hm hok
  · rename_i g p1 p2 assign body k hrg
    unfold rgOf at hrg
    have hs : AGo P N (silT 60 todo) (slot ρ) ds M.abs R → AGo P N todo (slot ρ) ds M.abs R := silT_spec 60 todo
    have hok := silT_ok 60 hok
    generalize silT 60 todo = l at hs hok hrg
    split at hrg
    · split at hrg
      · simp only [Option.some.injEq, Prod.mk.injEq] at hrg
        obtain ⟨rfl, rfl, rfl, rfl, rfl, rfl⟩ := hrg
        unfold rgK
        split
        · rename_i fB bx hg
          split
          · rename_i tS e hb
            split
            · rename_i el hT
              split
              · rename_i q L c M1 hl
                cases hcnd : Nat.ble L 4611686018427387904 && (Nat.blt _ N && Nat.blt _ N) with
                | false => exact ⟨fun h => h.elim, True.intro⟩
                | true =>
                  simp only [Bool.and_eq_true, Nat.ble_eq, Nat.blt_eq] at hcnd
                  obtain ⟨c1, c2, c3⟩ := hcnd
                  simp only [cond_true]
                  split
                  · rename_i M' hbk
                    exact ⟨fun h => hs (ago_back hC (hRB _ _ _ hb) hg hT hl c1 c2 c3 hbk h), hok.tail⟩
                  · exact ⟨fun h => h.elim, True.intro⟩
              · exact ⟨fun h => h.elim, True.intro⟩
            · exact ⟨fun h => h.elim, True.intro⟩
          · exact ⟨fun h => h.elim, True.intro⟩
        · exact ⟨fun h => h.elim, True.intro⟩
      · cases hrg
    · cases hrg
noncomputable def callOneR (P : Program) (X : Exts) (RB : RBs) (tab : Nat → Tab) (n : Nat) (C : Caller) : Caller := fun f args M => match P.funcs[f]? with
  | none => none
  | some fn => (match fn.body with
    | none => none
    | some c => bif Nat.ble args.length fn.ntmps then endS P fn (callD P X C tab n) (iter (step3 P X C RB fn.ntmps (tab f) (rSlots fn)) n [.code c] (T.ofL args 0 .leaf) [] M) else none)
theorem callOneR_spec {P : Program} {X : Exts} {RB : RBs} {C : Caller} {tab : Nat → Tab} {n : Nat} (hP : okP tab P.funcs.toList 0 = true) (hX : ExtOk P X) (hRB : RBok P RB) (hC : CS P C) (hm : P.follows .mixedOrders = true) : CS P (callOneR P X RB tab n C) := by
  intro f args M e M' h
  unfold callOneR endS at h
  split at h
  · cases h
  rename_i fn hf
  split at h
  · cases h
  rename_i c hb
  rw [cond_some] at h
  obtain ⟨hl, h⟩ := h
  have hl := Nat.le_of_ble_eq_true hl
  split at h
  · rename_i d ρ ds M2 hx
    refine acalls_of_ago_d hf hb rfl hl ?_
    rw [← slot_init]
    have hc : okC (tab f) fn.ntmps c = true := by
      have := okP_spec hP (j := f) (fn := fn) (by simpa using hf) hb
      rwa [Nat.zero_add] at this
    refine (iterS_spec (tab := tab f) (N := fn.ntmps) (rs := rSlots fn) (f := step3 P X C RB fn.ntmps (tab f) (rSlots fn)) (fun todo ρ ds M h => step3_spec hX hRB hC hm h) n _ _ _ _ (fun x hx => ?_)).1 ?_
    · obtain rfl := List.mem_singleton.1 hx
      exact hc
    rw [hx]
    intro ρ' hr
    exact leave_spec (callD_spec hX hC hm) hr h
  · cases h
noncomputable def callR (P : Program) (X : Exts) (RB : RBs) (tab : Nat → Tab) (n : Nat) (d : Nat) : Caller := Nat.rec (motive := fun _ => Caller) (fun _ _ _ => none) (fun _ ih => callOneR P X RB tab n ih) d
theorem callR_spec {P : Program} {X : Exts} {RB : RBs} {tab : Nat → Tab} {n : Nat} (hP : okP tab P.funcs.toList 0 = true) (hX : ExtOk P X) (hRB : RBok P RB) (hm : P.follows .mixedOrders = true) : ∀ d, CS P (callR P X RB tab n d)
  | 0 => fun _ _ _ _ _ h => by cases h
  | d + 1 => callOneR_spec hP hX hRB (callR_spec hP hX hRB hm d) hm
end Go.Ri

set_option linter.unusedSimpArgs false
set_option linter.unusedVariables false
set_option linter.unusedSectionVars false
namespace Go.Ri
open Go Go.Am Go.RowKit
variable [SymE]
variable [FT] [FTok]
def rnV (ren : Nat → Nat) : Value → Value
  | .pointer (some ⟨b, o, q⟩) => .pointer (some ⟨ren b, o, q⟩)
  | .slice (some ⟨b, o, q⟩) l c => .slice (some ⟨ren b, o, q⟩) l c
  | v => v
def okV (n : Nat) : Value → Bool
  | .pointer (some ⟨b, _, none⟩) => Nat.blt b n
  | .slice (some ⟨b, _, none⟩) _ _ => Nat.blt b n
  | .pointer (some ⟨_, _, some _⟩) => false
  | .slice (some ⟨_, _, some _⟩) _ _ => false
  | v => plain v
theorem vr_ren {s : Inj} {ren : Nat → Nat} {n : Nat} {v v' : Value} (h : okV n v = true) (hv : VR s (rnV ren v) v') : VR (fun b => if b < n then s (ren b) else none) v v' := by
  have pl : ∀ {v : Value}, plain v = true → VR s v v' → VR (fun b => if b < n then s (ren b) else none) v v' := fun hp hv => by
    have := VR.eq_of_plain hv hp
    subst this
    exact VR.ofPlain hp
  unfold okV at h
  split at h
  · rename_i b o
    rw [Nat.blt_eq] at h
    simp only [rnV] at hv
    cases hv with
    | ptr he => exact .ptr (by simp only [if_pos h]; exact he)
  · rename_i b o l c
    rw [Nat.blt_eq] at h
    simp only [rnV] at hv
    cases hv with
    | slice hl hc hh => exact .slice hl hc fun hp => by simp only [if_pos h]; exact hh hp
  · cases h
  · cases h
  · rename_i h1 h2 h3 h4
    have e : rnV ren v = v := by
      unfold rnV
      split
      · rename_i b o q
        cases q with
        | none => exact absurd rfl (h1 b o)
        | some q => exact absurd rfl (h3 b o q)
      · rename_i b o q l c
        cases q with
        | none => exact absurd rfl (h2 b o l c)
        | some q => exact absurd rfl (h4 b o q l c)
      · rfl
    rw [e] at hv
    exact pl h hv
structure UnderR (G : Nat) (ren : Nat → Nat) (aw0 aw : AW) : Prop where
  le : G ≤ aw0.next
  gl : ∀ g, g < G → ren g = g
  no : ∀ b, aw0.next ≤ b → aw0.m b = none
  blk : ∀ b B, aw0.m b = some B → B.rw = false ∧ ∃ B', aw.m (ren b) = some B' ∧ B'.elem = B.elem ∧ B'.esz = B.esz ∧ (B.esz = 0 → B'.cells.length = B.cells.length) ∧
    ∀ (i : Nat) (v : Value), B.cells[i]? = some v → okV aw0.next v = true ∧ B'.cells[i]? = some (rnV ren v)
theorem vrs_ren {s : Inj} {ren : Nat → Nat} {n : Nat} : ∀ {l l' : List Value}, l.all (okV n) = true → VRs s (l.map (rnV ren)) l' → VRs (fun b => if b < n then s (ren b) else none) l l'
  | [], _, _, h => by cases h; exact .nil
  | x :: l, _, ha, h => by
    simp only [List.all_cons, Bool.and_eq_true] at ha
    simp only [List.map_cons] at h
    cases h with
    | cons h1 t => exact .cons (vr_ren ha.1 h1) (vrs_ren ha.2 t)
theorem acalls_ren {P : Program} {f : FuncId} {args : List Value} {aw0 aw aw1 : AW} {v : Value} {ren : Nat → Nat} (hu : UnderR P.globals.size ren aw0 aw) (ha : args.all (okV aw0.next) = true) (hv : plain v = true)
    (h : ACalls P f args aw0 fun e aw' => e = .returned v ∧ aw' = aw1) : ACalls P f (args.map (rnV ren)) aw fun e aw' => e = .returned v ∧ aw' = aw := by
  intro base w0 s args' w hr hargs
  have r0 : Rel P.globals.size (· < w.heap.size) w (fun b => if b < aw0.next then s (ren b) else none) aw0 w := by
    refine ⟨?_, ?_, ?_, ?_, (fun k hk => hk), ?_, Keep.refl _ _⟩
    · intro b hb
      simp only [if_neg (show ¬ b < aw0.next by omega)]
    · exact hu.no
    · intro b B hB
      have hlt : b < aw0.next := by
        rcases Nat.lt_or_ge b aw0.next with h | h
        · exact h
        · rw [hu.no b h] at hB; cases hB
      obtain ⟨h3, B', k1, k2, k3, k4, k5⟩ := hu.blk b B hB
      obtain ⟨e, cs, fz, g1, g2, g3, g4, g5, g6, g7⟩ := hr.blk (ren b) B' k1
      have hlen : B.cells.length ≤ B'.cells.length := by
        rcases Nat.lt_or_ge B'.cells.length B.cells.length with h | h
        · have hx := (k5 B'.cells.length _ (List.getElem?_eq_getElem h)).2
          rw [List.getElem?_eq_none (Nat.le_refl _)] at hx; cases hx
        · exact h
      refine ⟨e, cs, fz, by simp only [if_pos hlt]; exact g1, ⟨g2.1.trans k3, (fun h => absurd (h3.symm.trans h) (by decide)), fun h0 => ?_⟩, k2 ▸ g3, g4, by omega, fun i u hi => ?_, (fun h => absurd (h3.symm.trans h) (by decide))⟩
      · obtain ⟨q1, q2⟩ := g2.2.2 (k3.trans h0)
        exact ⟨q1, by rw [q2, k4 h0]⟩
      · obtain ⟨j1, j2⟩ := k5 i u hi
        obtain ⟨u', l1, l2⟩ := g6 i _ j2
        exact ⟨u', l1, vr_ren j1 l2⟩
    · intro b1 b2 B1 B2 e1 e2 _ hB1 _ _ _ hrw
      rw [(hu.blk b1 B1 hB1).1] at hrw; cases hrw
    · intro g hg
      obtain ⟨e, h1, h2⟩ := hr.glob g hg
      exact ⟨e, by simp only [if_pos (Nat.lt_of_lt_of_le hg hu.le), hu.gl g hg]; exact h1, h2⟩
  refine (h _ _ _ args' w r0 (vrs_ren ha hargs)).mono ?_
  rintro e w' ⟨s', ae, aw', _, hrel, her, hq, _⟩
  subst hq
  exact ⟨s, .returned v, aw, Inj.le_refl s, hr.later hrel.below, plain_ER hv her, rfl, rfl⟩
noncomputable def memR (n : Nat) (l : List (Nat × List Value × TypeId × Nat)) : Mem := ⟨List.rec (motive := fun _ => T (Option RB)) .leaf (fun p _ ih => T.dn ih fun t => T.set (some ⟨T.ofL p.2.1 0 .leaf, p.2.1.length, p.2.2.1, p.2.2.2, false⟩) t p.1) l, n⟩
theorem memR_abs {n : Nat} : ∀ (l : List (Nat × List Value × TypeId × Nat)) (b : Nat) (B : Blk), (memR n l).abs.m b = some B → ∃ p ∈ l, p.1 = b ∧ B = ⟨p.2.1, p.2.2.1, p.2.2.2, false, 0⟩
  | [], b, B, h => by
    have : (memR n []).abs.m b = none := by simp [Mem.abs, Mem.at, memR, T.get_leaf]
    rw [this] at h; cases h
  | p :: l, b, B, h => by
    have hbl : (memR n (p :: l)).bl = T.set (some ⟨T.ofL p.2.1 0 .leaf, p.2.1.length, p.2.2.1, p.2.2.2, false⟩) (memR n l).bl p.1 := by
      rfl
    simp only [Mem.abs, Mem.at, hbl, T.get_set] at h
    by_cases hb : b = p.1
    · rw [if_pos hb] at h
      simp only [Option.map_some, Option.some.injEq] at h
      refine ⟨p, by simp, hb.symm, ?_⟩
      rw [← h]
      simp only [RB.abs, Blk.mk.injEq, and_true]
      apply List.ext_getElem?
      intro k
      simp only [List.getElem?_map]
      rcases Nat.lt_or_ge k p.2.1.length with hk | hk
      · rw [List.getElem?_range hk]
        simp only [Option.map_some, T.get_ofL]
        rw [if_pos (by omega), Nat.sub_zero, List.getElem?_eq_getElem hk]; rfl
      · rw [List.getElem?_eq_none (by simp; omega), List.getElem?_eq_none hk]; rfl
    · rw [if_neg hb] at h
      obtain ⟨q, hq, h1, h2⟩ := memR_abs l b B h
      exact ⟨q, by simp [hq], h1, h2⟩
structure AsR (n : Nat) (ren : Nat → Nat) (aw : AW) (p : Nat × List Value × TypeId × Nat) : Prop where
  lt : p.1 < n
  ok : p.2.1.all (okV n) = true
  blk : ∃ js rw fz, aw.m (ren p.1) = some ⟨p.2.1.map (rnV ren) ++ js, p.2.2.1, p.2.2.2, rw, fz⟩ ∧ (p.2.2.2 = 0 → js = [])
theorem run_ren {P : Program} {X : Exts} {tab : Nat → Tab} {n d nx : Nat} {l : List (Nat × List Value × TypeId × Nat)} {ren : Nat → Nat} (hX : ExtOk P X) (hm : P.follows .mixedOrders = true) {f : FuncId} {args args' : List Value} {M' : Mem} {v : Value}
    (hrun : callN P X tab n d f args (memR nx l) = some (.returned v, M')) (hG : P.globals.size ≤ nx) (hren : ∀ g, g < P.globals.size → ren g = g) {aw : AW} (hl : ∀ p ∈ l, AsR nx ren aw p)
    (ha : args.all (okV nx) = true) (ha' : args.map (rnV ren) = args') (hv : plain v = true) {α : Type} {sh : α → Value} {r : α} (hs : v = sh r) {Q : α → AW → Prop} {E : List PanicEntry → AW → Prop} (hQ : Q r aw) : CallP P f args' aw sh Q E := by
  subst ha'
  have hu : UnderR P.globals.size ren (memR nx l).abs aw := by
    refine ⟨hG, hren, fun b hb => ?_, fun b B hB => ?_⟩
    · cases hB : (memR nx l).abs.m b with
      | none => rfl
      | some B =>
        obtain ⟨p, hp, rfl, _⟩ := memR_abs l b B hB
        have := (hl p hp).lt
        have hb' : nx ≤ p.1 := hb
        omega
    · obtain ⟨p, hp, rfl, rfl⟩ := memR_abs l b B hB
      obtain ⟨h1, h2, js, rw, fz, h3, h4⟩ := hl p hp
      refine ⟨rfl, _, h3, rfl, rfl, fun h0 => ?_, fun i u hi => ?_⟩
      · simp [h4 h0]
      · have hlt : i < p.2.1.length := (List.getElem?_eq_some_iff.1 hi).1
        refine ⟨List.all_eq_true.1 h2 u (List.mem_of_getElem? hi), ?_⟩
        show (p.2.1.map (rnV ren) ++ js)[i]? = _
        rw [List.getElem?_append_left (by simpa using hlt), List.getElem?_map, hi]
        rfl
  refine ACalls.mono (acalls_ren hu ha hv (callN_spec hX hm d f args (memR nx l) _ _ hrun)) fun e aw' he => ?_
  obtain ⟨rfl, rfl⟩ := he
  exact ⟨r, hs, hQ⟩
end Go.Ri

set_option linter.unusedSimpArgs false
set_option linter.unusedVariables false
set_option linter.unusedSectionVars false
namespace Go.Ri
open Go Go.Am Go.RowKit
noncomputable def orcl (chk : Mem → Bool) (f0 : FuncId) (C : Caller) : Caller := fun f args M => bif Nat.beq f f0 then (match args with
  | [] => bif chk M then some (.returned (.bool true), M) else none
  | _ => none) else C f args M
def OrOk [SymE] (P : Program) (chk : Mem → Bool) (f0 : FuncId) : Prop := ∀ M, chk M = true → ACalls P f0 [] M.abs fun e aw' => e = .returned (.bool true) ∧ aw' = M.abs
theorem orcl_spec [SymE] {P : Program} {chk : Mem → Bool} {f0 : FuncId} (ho : OrOk P chk f0) {C : Caller} (hC : CS P C) : CS P (orcl chk f0 C) := by
  intro f args M e M' h
  unfold orcl at h
  cases hf : Nat.beq f f0 with
  | false => rw [hf] at h; exact hC _ _ _ _ _ h
  | true =>
    rw [hf] at h
    simp only [cond_true] at h
    obtain rfl := Nat.eq_of_beq_eq_true hf
    match args, h with
    | [], h =>
      rw [cond_some] at h
      obtain ⟨hc, h⟩ := h
      simp only [Option.some.injEq, Prod.mk.injEq] at h
      obtain ⟨rfl, rfl⟩ := h
      exact ho M hc
    | _ :: _, h => cases h
noncomputable def callRo [FT] (P : Program) (X : Exts) (RB : RBs) (chk : Mem → Bool) (f0 : FuncId) (tab : Nat → Tab) (n : Nat) (d : Nat) : Caller := Nat.rec (motive := fun _ => Caller) (fun _ _ _ => none) (fun _ ih => callOneR P X RB tab n (orcl chk f0 ih)) d
theorem callRo_spec [SymE] [FT] [FTok] {P : Program} {X : Exts} {RB : RBs} {chk : Mem → Bool} {f0 : FuncId} (ho : OrOk P chk f0) {tab : Nat → Tab} {n : Nat} (hP : okP tab P.funcs.toList 0 = true) (hX : ExtOk P X) (hRB : RBok P RB) (hm : P.follows .mixedOrders = true) : ∀ d, CS P (callRo P X RB chk f0 tab n d)
  | 0 => fun _ _ _ _ _ h => by cases h
  | d + 1 => callOneR_spec hP hX hRB (orcl_spec ho (callRo_spec ho hP hX hRB hm d)) hm
theorem run_lawR [SymE] {P : Program} {X : Exts} {RB : RBs} {chk : Mem → Bool} {f0 : FuncId} (ho : OrOk P chk f0) {tab : Nat → Tab} {n d : Nat} {F : Facts} (hF : F.ok) (hP : okP tab P.funcs.toList 0 = true) (hX : ExtOk P X) (hRB : RBok P RB) (hm : P.follows .mixedOrders = true)
    {f : FuncId} {sargs vs : List Value} {M0 : Mem} {W : World} {s : Inj} (hr : Rel P.globals.size (· < W.heap.size) W s M0.abs W) (hv : VRs s sargs vs)
    (hrun : retB (@callRo (ftOf F) P X RB chk f0 tab n d f sargs M0) = true) : Calls P f vs.toArray W fun e w' => e = .returned (.bool true) ∧ Below W.heap.size W w' := by
  letI : FT := ftOf F
  haveI : FTok := ftOk hF
  obtain ⟨M', hM⟩ := retB_some hrun
  have h := callRo_spec ho hP hX hRB hm d f sargs _ _ _ hM
  refine (h _ _ _ vs W hr hv).mono ?_
  rintro e w' ⟨s', ae, aw', _, hr', her, rfl, _⟩
  cases her with
  | returned h =>
    cases h
    exact ⟨rfl, hr'.below.below⟩
noncomputable def standL (l : List (Nat × List Value × Nat)) (M : Mem) : Bool := List.rec (motive := fun _ => Bool) true
  (fun p _ ih => match M.at p.1 with
    | none => false
    | some B => bif Nat.beq B.len p.2.1.length && (Nat.beq B.esz p.2.2 && !B.rw) then (match B.getN p.2.1.length 0 with
      | none => false
      | some cs => bif vEq.lEq (vEq 2) cs p.2.1 then ih else false) else false) l
theorem standL_spec [SymE] {M : Mem} : ∀ {l : List (Nat × List Value × Nat)}, standL l M = true → ∀ p ∈ l, ∃ B, M.at p.1 = some B ∧ M.abs.m p.1 = some ⟨p.2.1, B.elem, p.2.2, false, 0⟩
  | [], _, p, hp => by cases hp
  | (g, cells, z) :: l, h, p, hp => by
    have h : (match M.at g with
      | none => false
      | some B => bif Nat.beq B.len cells.length && (Nat.beq B.esz z && !B.rw) then (match B.getN cells.length 0 with
        | none => false
        | some cs => bif vEq.lEq (vEq 2) cs cells then standL l M else false) else false) = true := h
    split at h
    · cases h
    rename_i B hB
    cases hc : Nat.beq B.len cells.length && (Nat.beq B.esz z && !B.rw) with
    | false => rw [hc] at h; cases h
    | true =>
      rw [hc] at h
      simp only [cond_true] at h
      split at h
      · cases h
      rename_i cs hcs
      cases hv : vEq.lEq (vEq 2) cs cells with
      | false => rw [hv] at h; cases h
      | true =>
        rw [hv] at h
        simp only [cond_true] at h
        simp only [Bool.and_eq_true, Nat.beq_eq, Bool.not_eq_true'] at hc
        obtain ⟨c1, c2, c3⟩ := hc
        rcases List.mem_cons.1 hp with rfl | hp
        · refine ⟨B, hB, ?_⟩
          simp only
          rw [M.abs_m hB]
          have hlen : B.abs.cells.length = cells.length := by rw [B.abs_len]; exact c1
          have hg := RB.getN_spec hB (i := 0) (by omega) hcs
          have e := lEq_spec (vEq_spec 2) hv
          subst e
          have hcells : B.abs.cells = cs := by
            have hw := getN_whole (M.abs_m hB)
            rw [hlen, hg] at hw
            exact (Option.some.inj hw).symm
          rw [← hcells]
          simp only [RB.abs, Option.some.injEq, Blk.mk.injEq, and_true, true_and]
          exact ⟨c2, c3⟩
        · exact standL_spec h p hp
end Go.Ri

set_option linter.unusedSimpArgs false
set_option linter.unusedVariables false
set_option linter.unusedSectionVars false
namespace Go.Ri
open Go Go.Am Go.RowKit
variable [SymE] [FT] [FTok]
abbrev vlB (i1 i2 i3 i4 : Nat) (o1 o2 o3 o4 : Array Oper) : Code := .seq (.region i1 o1 false) (.seq (.cond (.tmp 8) .skip (.exit 0)) (.seq (.block 1 (.seq (.region i2 o2 false) (.seq (.region i3 o3 false) (.cond (.tmp 14) .ret .skip)))) (.region i4 o4 false)))
abbrev vlH (i1 i2 i3 i4 : Nat) (o1 o2 o3 o4 : Array Oper) : List Item := [.code (vlB i1 i2 i3 i4 o1 o2 o3 o4), .inLoop (vlB i1 i2 i3 i4 o1 o2 o3 o4), .inBlock 0]
abbrev sh0 (T : TypeId) : List OpD3 := [(.load T (.tmp 1), some 5, none), (.call ⟨.builtin .len, #[.tmp 5], #[T]⟩, some 6, none), (.move zero64, some 7, none)]
abbrev sh1 (tk tl : TypeId) : List OpD3 := [(.binOp .lss tk (.tmp 7) (.tmp 6) tl, some 8, none)]
abbrev sh2 (T e : TypeId) : List OpD3 := [(.indexAddr T (.tmp 5) (.tmp 7), some 9, none), (.load e (.tmp 9), some 10, none), (.assign (.tmp 10), some 4, none)]
abbrev sh3 (tm : TypeId) (ts : Array TypeId) : List OpD3 := [(.move (.tmp 0), some 11, none), (.move (.tmp 4), some 12, none), (.call ⟨.value (.tmp 11), #[.tmp 12], ts⟩, some 13, none), (.unOp .not tm (.tmp 13), some 14, none)]
abbrev sh4 (tn tj : TypeId) : List OpD3 := [(.binOp .add tn (.tmp 7) one64 tj, some 15, none), (.move (.tmp 15), some 7, none)]
structure IsVals (P : Program) (fB : FuncId) (T e : TypeId) : Prop where
  ex : ∃ (fn : Func) (i0 i1 i2 i3 i4 : Nat) (o0 o1 o2 o3 o4 : Array Oper) (tj tk tl tm tn : TypeId) (ts : Array TypeId),
    P.funcs[fB]? = some fn ∧ (fn.name == "runtime.NumGoroutine") = false ∧ fn.ntmps = 16 ∧ fn.results = #[] ∧
    fn.body = some (.seq (.region i0 o0 false) (.block 0 (.loop (vlB i1 i2 i3 i4 o1 o2 o3 o4)))) ∧
    shp o0 = sh0 T ∧ shp o1 = sh1 tk tl ∧ shp o2 = sh2 T e ∧ shp o3 = sh3 tm ts ∧ shp o4 = sh4 tn tj
noncomputable def vlRun (P : Program) (C : Caller) (N : Nat) (tS e : TypeId) (p1 : Tmp) (assign body : Code) (sv : Value) (ρ : T Value) (r : Nat) : Nat → Mem → Option Mem := Nat.rec (motive := fun _ => Nat → Mem → Option Mem) (fun _ M => some M)
  (fun _ ih i M => match bkElem P M tS e sv i with
      | none => none
      | some x => (match rnd P C N assign body (putS ρ (some p1) x) M with
        | none => none
        | some M' => ih (Nat.succ i) M')) r
theorem eBin_lss {P : Program} {ρ : Env} {M : Mem} {t : TypeId} {a b : Nat} {n m : Int} (h : ρ a = .int .i64 n) (h2 : ρ b = .int .i64 m) (t' : TypeId) : eOp P ρ M (.binOp .lss t (.tmp a) (.tmp b) t') = some (.bool (decide (n < m)), M) := by
  simp [eOp, eBin, okv, h, h2, bin, binI, ar]
theorem eBin_add {P : Program} {ρ : Env} {M : Mem} {t : TypeId} {a : Nat} {n : Int} (h : ρ a = .int .i64 n) (t' : TypeId) : eOp P ρ M (.binOp .add t (.tmp a) one64 t') = some (.int .i64 (fw .i64 (n + 1)), M) := by
  simp [eOp, eBin, okv, one64, plain, h, bin, binI, ar]
section
variable {P : Program} {C : Caller} {i1 i2 i3 i4 : Nat} {o1 o2 o3 o4 : Array Oper}
theorem vl_head {tk tl : TypeId} (h1 : shp o1 = sh1 tk tl) {ρ : Env} {M : Mem} {n m : Int} (h7 : ρ 7 = .int .i64 n) (h6 : ρ 6 = .int .i64 m) :
    Seg P 16 (vlH i1 i2 i3 i4 o1 o2 o3 o4) (.code (if decide (n < m) then .skip else .exit 0) :: .code (.seq (.block 1 (.seq (.region i2 o2 false) (.seq (.region i3 o3 false) (.cond (.tmp 14) .ret .skip)))) (.region i4 o4 false)) :: [.inLoop (vlB i1 i2 i3 i4 o1 o2 o3 o4), .inBlock 0])
      ρ (ρ.put (some 8) (.bool (decide (n < m)))) M.abs M.abs := by
  refine (Seg.one fun _ _ _ _ => stepR_seq).trans ((Seg.regionN (shp_size h1)).trans ?_)
  refine (Seg.shp (N := 16) (i := 0) (rest := []) h1 rfl (by decide) (fun c => by simp) (M' := M) (eBin_lss (n := n) (m := m) h7 h6 _)).trans ?_
  exact Seg.regionEnd.trans ((Seg.one fun _ _ _ _ => stepR_seq).trans (Seg.cond rfl (ev_put _ _ _)))
theorem vl_mid {T e tm : TypeId} {ts : Array TypeId} (h2 : shp o2 = sh2 T e) (h3 : shp o3 = sh3 tm ts)
    {ρ : Env} {M : Mem} {i : Nat} {sv x : Value} {k : List Item} (q5 : ρ 5 = sv) (q7 : ρ 7 = .int .i64 (.ofNat i)) (hx : bkElem P M T e sv i = some x) :
    ∃ ρ', Seg P 16 (.code .skip :: .code (.seq (.block 1 (.seq (.region i2 o2 false) (.seq (.region i3 o3 false) (.cond (.tmp 14) .ret .skip)))) (.region i4 o4 false)) :: k)
      (.inRegion o3 [2, 3] :: .code (.cond (.tmp 14) .ret .skip) :: .inBlock 1 :: .code (.region i4 o4 false) :: k) ρ ρ' M.abs M.abs ∧ ρ' 0 = ρ 0 ∧ ρ' 5 = ρ 5 ∧ ρ' 6 = ρ 6 ∧ ρ' 7 = ρ 7 ∧ ρ' 11 = ρ 0 ∧ ρ' 12 = x := by
  unfold bkElem at hx
  split at hx
  · rename_i p Mp hp
    split at hx
    · rename_i y My hy
      simp only [Option.some.injEq] at hx
      subst hx
      have hMp : Mp = M := quiet_spec (P := P) (ρ := fun t => Nat.rec (motive := fun _ => Value) sv (fun _ _ => .int .i64 (.ofNat i)) t) (op := .indexAddr T (.tmp 0) (.tmp 1)) rfl hp
      have hMy : My = M := quiet_spec (P := P) (ρ := fun _ => p) (op := .load e (.tmp 0)) rfl hy
      subst hMp
      subst hMy
      refine ⟨(((((ρ.put (some 9) p).put (some 10) y).put (some 4) y).put (some 11) (ρ 0)).put (some 12) y), ?_, ?_⟩
      · refine (Seg.one fun _ _ _ _ => stepR_skip).trans ?_
        refine (Seg.one fun _ _ _ _ => stepR_seq).trans ?_
        refine (Seg.one fun _ _ _ _ => stepR_block).trans ?_
        refine (Seg.one fun _ _ _ _ => stepR_seq).trans ?_
        refine (Seg.regionN (shp_size h2)).trans ?_
        refine (Seg.shp (N := 16) (i := 0) (rest := [1, 2]) h2 rfl (by decide) (fun c => by simp) (v := p) (M' := My) ?_).trans ?_
        · show eIxA P _ My T (.tmp 5) (.tmp 7) = _
          rw [← hp]
          exact eIxA_eq q5 q7
        refine (Seg.shp (N := 16) (i := 1) (rest := [2]) h2 rfl (by decide) (fun c => by simp) (v := y) (M' := My) ?_).trans ?_
        · show eLoad P _ My e (.tmp 9) = _
          rw [← hy]; exact eLoad_eq (put_eq _ _ _)
        refine (Seg.shp (N := 16) (i := 2) (rest := []) h2 rfl (by decide) (fun c => by simp) (v := y) (M' := My) ?_).trans ?_
        · show some _ = some _
          rw [put_eq]
        refine Seg.regionEnd.trans ?_
        refine (Seg.one fun _ _ _ _ => stepR_seq).trans ?_
        refine (Seg.regionN (shp_size h3)).trans ?_
        refine (Seg.shp (N := 16) (i := 0) (rest := [1, 2, 3]) h3 rfl (by decide) (fun c => by simp) (v := ρ 0) (M' := My) ?_).trans ?_
        · show some _ = some _
          rw [put_ne _ _ (by decide), put_ne _ _ (by decide), put_ne _ _ (by decide)]
        refine Seg.shp (N := 16) (i := 1) (rest := [2, 3]) h3 rfl (by decide) (fun c => by simp) (v := y) (M' := My) ?_
        show some _ = some _
        rw [put_ne _ _ (by decide), put_eq]
      · refine ⟨?_, ?_, ?_, ?_, ?_, put_eq _ _ _⟩
        all_goals simp only [Env.put_some]
        all_goals rfl
    · cases hx
  · cases hx
theorem vl_tail {tm tn tj : TypeId} {ts : Array TypeId} (h3 : shp o3 = sh3 tm ts) (h4 : shp o4 = sh4 tn tj) {ρ : Env} {M : Mem} {n : Int} (q7 : ρ 7 = .int .i64 n) (q13 : ρ 13 = .bool true) :
    ∃ ρ', Seg P 16 (.inRegion o3 [3] :: .code (.cond (.tmp 14) .ret .skip) :: .inBlock 1 :: .code (.region i4 o4 false) :: [.inLoop (vlB i1 i2 i3 i4 o1 o2 o3 o4), .inBlock 0]) (vlH i1 i2 i3 i4 o1 o2 o3 o4) ρ ρ' M.abs M.abs ∧ ρ' 0 = ρ 0 ∧ ρ' 5 = ρ 5 ∧ ρ' 6 = ρ 6 ∧ ρ' 7 = .int .i64 (fw .i64 (n + 1)) := by
  refine ⟨(((ρ.put (some 14) (.bool false)).put (some 15) (.int .i64 (fw .i64 (n + 1)))).put (some 7) (.int .i64 (fw .i64 (n + 1)))), ?_, ?_⟩
  · refine (Seg.shp (N := 16) (i := 3) (rest := []) h3 rfl (by decide) (fun c => by simp) (v := .bool false) (M' := M) (by simp [eOp, eUn, okv, q13])).trans ?_
    refine Seg.regionEnd.trans ?_
    refine (Seg.cond (q := false) rfl (ev_put _ _ _)).trans ?_
    refine (Seg.one fun _ _ _ _ => stepR_skip).trans ?_
    refine (Seg.one fun _ _ _ _ => stepR_inBlock).trans ?_
    refine (Seg.regionN (shp_size h4)).trans ?_
    refine (Seg.shp (N := 16) (i := 0) (rest := [1]) h4 rfl (by decide) (fun c => by simp) (M' := M) (eBin_add (n := n) (by rw [put_ne _ _ (by decide), q7]) _)).trans ?_
    refine (Seg.shp (N := 16) (i := 1) (rest := []) h4 rfl (by decide) (fun c => by simp) (v := .int .i64 (fw .i64 (n + 1))) (M' := M) ?_).trans ?_
    · show some _ = some _
      rw [put_eq]
    exact Seg.regionEnd.trans (Seg.one fun _ _ _ _ => stepR_inLoop)
  · refine ⟨?_, ?_, ?_, put_eq _ _ _⟩
    all_goals simp only [Env.put_some]
    all_goals rfl
theorem step_yield1 {b : Frame} {a : Act} {ops : Array Oper} {i : Nat} {rest : List Nat} {k : List Item} {cs : List Frame} {w : World} {o : Oper} {l : Nat} {r : Loop} {t11 t12 p1 : Nat} {ts : Array TypeId}
    (ho : ops[i]? = some o) (hop : o.op = .call ⟨.value (.tmp t11), #[.tmp t12], ts⟩) (hg : o.guard = none) (h11 : a.tmps.getD t11 undef = .func (.yield l) #[] #[]) (hl : w.heap[l]? = some (.loop r)) (hp : r.params = #[p1]) :
    step P (lone (b.atR a (.inRegion ops (i :: rest) :: k)) cs w) =
      .next (lone (Frame.round l r.fn (r.tmps.setIfInBounds p1 (a.tmps.getD t12 undef)) r.assign r.body .normal) (b.atR a (.inRegion ops (i :: rest) :: k) :: cs) w) := by
  have hst := stepGR_op (P := P) (b := b) (k := k) (cs := cs) (w := w) (rest := rest) ho (wantedN hg ops a.tmps)
  rw [Oper.semAt_eq _ _ _ (fun c => by rw [hop]; simp)] at hst
  have hrun : (execOp a.eval o).run P w = .ok (.round l r.fn (r.tmps.setIfInBounds p1 (a.tmps.getD t12 undef)) r.assign r.body) w := by
    have hy := run_yield (P := P) (w := w) (args := #[a.tmps.getD t12 undef]) hl (by rw [hp]; rfl)
    rw [hp] at hy
    simp only [execOp, hop, resolve, Sem.run_bind, Act.eval, h11, Deferred.ofValue, Sem.run_pure, Result.andThen_ok, invoke, List.map_toArray, List.map_cons, List.map_nil, Array.append_eq_append, Array.empty_append]
    have e : (#[] ++ [a.tmps.getD t12 undef].toArray : Array Value) = #[a.tmps.getD t12 undef] := by simp
    have hz : (#[p1] : Array Tmp).zip #[a.tmps.getD t12 undef] = #[(p1, a.tmps.getD t12 undef)] := by
      apply Array.toList_inj.1
      simp [Array.toList_zip]
    rw [hy, hz]
    simp
  exact step_lone_go (by rw [hst]; simp [stepG.apply, hrun, Frame.atR])
theorem vals_loop (hC : CS P C) {N : Nat} {T e tk tl tm tn tj : TypeId} {ts : Array TypeId} {p1 : Nat} {assign body : Code} {L : Nat} {sv : Value} {ρ : Go.Ri.T Value} (hp1 : p1 < N)
    (h1 : shp o1 = sh1 tk tl) (h2 : shp o2 = sh2 T e) (h3 : shp o3 = sh3 tm ts) (h4 : shp o4 = sh4 tn tj) (hLb : L ≤ 4611686018427387904)
    {base : Nat → Prop} {ws : World} {l : Nat} {r : Loop} (hls : ws.heap.size ≤ l) (hlb : ¬ base l) (hr : r.state = .ready) (hra : r.assign = assign) (hrb : r.body = body) (hrp : r.pending = none) (hrn : r.tmps.size = N) (hrs : r.params = #[p1]) :
    ∀ (n i : Nat) (M M' : Mem), i + n = L → vlRun P C N T e p1 assign body sv ρ n i M = some M' → ∀ {s : Inj} {w : World} (hi : Inv P base ws M s l r w) (hrt : ∀ t, VR s (slot ρ t) (r.tmps.getD t undef)) {ρB : Env} {aB : Act}
      (he : ∀ t, VR s (ρB t) (aB.tmps.getD t undef)) (hn : aB.tmps.size = 16) (q0 : ρB 0 = .func (.yield l) #[] #[]) (q5 : ρB 5 = sv) (q6 : ρB 6 = .int .i64 (.ofNat L)) (q7 : ρB 7 = .int .i64 (.ofNat i)) (b : Frame) (cs : List Frame),
      ∃ s' w' aB', s.le s' ∧ Steps P (lone (b.atR aB (vlH i1 i2 i3 i4 o1 o2 o3 o4)) cs w) (lone (b.atR aB' []) cs w') ∧ Inv P base ws M' s' l r w' ∧ aB'.defers = aB.defers ∧ aB'.tmps.size = 16
  | 0, i, M, M', hle, h, s, w, hi, hrt, ρB, aB, he, hn, q0, q5, q6, q7, b, cs => by
    have h : some M = some M' := h
    simp only [Option.some.injEq] at h; subst h
    obtain ⟨s1, a1, w1, k1, k2, k3, k4, k5, k6⟩ := vl_head (P := P) (i1 := i1) (i2 := i2) (i3 := i3) (i4 := i4) (o2 := o2) (o3 := o3) (o4 := o4) (M := M) h1 q7 q6 base s aB w b cs hi.rel.re he hn
    have hdec : decide ((Int.ofNat i) < Int.ofNat L) = false := by simp; omega
    rw [hdec] at k2
    have hx : step P (lone (b.atR a1 (.code (.exit 0) :: .code (.seq (.block 1 (.seq (.region i2 o2 false) (.seq (.region i3 o3 false) (.cond (.tmp 14) .ret .skip)))) (.region i4 o4 false)) :: [.inLoop (vlB i1 i2 i3 i4 o1 o2 o3 o4), .inBlock 0])) cs w1) = .next (lone (b.atR a1 []) cs w1) := stepR_exit rfl
    refine ⟨s1, w1, a1, k1, Steps.trans k2 (.one hx), ⟨hi.rel.back k3, k3.below.other l _ hi.rcd rfl⟩, k6, k5⟩
  | n + 1, i, M, M', hle, h, s, w, hi, hrt, ρB, aB, he, hn, q0, q5, q6, q7, b, cs => by
    have h : (match bkElem P M T e sv i with
        | none => none
        | some x => (match rnd P C N assign body (putS ρ (some p1) x) M with
          | none => none
          | some M' => vlRun P C N T e p1 assign body sv ρ n (i + 1) M')) = some M' := h
    split at h
    · cases h
    rename_i x hx
    split at h
    · cases h
    rename_i M2 hrnd
    obtain ⟨s1, a1, w1, k1, k2, k3, k4, k5, k6⟩ := vl_head (P := P) (i1 := i1) (i2 := i2) (i3 := i3) (i4 := i4) (o2 := o2) (o3 := o3) (o4 := o4) (M := M) h1 q7 q6 base s aB w b cs hi.rel.re he hn
    have hdec : decide ((Int.ofNat i) < Int.ofNat L) = true := by simp; omega
    rw [hdec] at k2 k4
    simp only [if_true] at k2
    have e0 : ∀ t, t ≠ 8 → (ρB.put (some 8) (.bool true)) t = ρB t := fun t t8 => by rw [put_ne _ _ t8]
    obtain ⟨ρ8, hmid, m0, m5, m6, m7, m11, m12⟩ := vl_mid (P := P) (i2 := i2) (i3 := i3) (i4 := i4) (o4 := o4) (k := [.inLoop (vlB i1 i2 i3 i4 o1 o2 o3 o4), .inBlock 0]) h2 h3 (ρ := ρB.put (some 8) (.bool true)) (by rw [e0 5 (by decide)]; exact q5) (by rw [e0 7 (by decide)]; exact q7) hx
    rw [e0 0 (by decide)] at m0 m11
    rw [e0 5 (by decide)] at m5
    rw [e0 6 (by decide)] at m6
    rw [e0 7 (by decide)] at m7
    obtain ⟨s2, a2, w2, j1, j2, j3, j4, j5, j6⟩ := hmid base s1 a1 w1 b cs k3.re k4 k5
    have hi2 : Inv P base ws M s2 l r w2 := ⟨(hi.rel.back k3).back j3, j3.below.other l _ (k3.below.other l _ hi.rcd rfl) rfl⟩
    obtain ⟨o, g1, g2, g3, g4⟩ := shp_get (i := 2) h3 rfl
    have h11 : a2.tmps.getD 11 undef = .func (.yield l) #[] #[] := by
      have := j4 11
      rw [m11, q0] at this
      obtain ⟨a', c', e1, e2, e3⟩ := this.func_inv
      rw [e1]
      have ea : a' = #[] := by
        have hh := e2.length
        exact Array.toList_eq_nil_iff.1 (List.length_eq_zero_iff.1 hh.symm)
      have ec : c' = #[] := by
        have hh := e3.length
        exact Array.toList_eq_nil_iff.1 (List.length_eq_zero_iff.1 hh.symm)
      rw [ea, ec]
    have hy := step_yield1 (P := P) (b := b) (a := a2) (rest := [3]) (k := .code (.cond (.tmp 14) .ret .skip) :: .inBlock 1 :: .code (.region i4 o4 false) :: [.inLoop (vlB i1 i2 i3 i4 o1 o2 o3 o4), .inBlock 0]) (cs := cs) g1 g2 g4 h11 hi2.rcd hrs
    have henv : ∀ t, VR s2 (slot (putS ρ (some p1) x) t) ((r.tmps.setIfInBounds p1 (a2.tmps.getD 12 undef)).getD t undef) := by
      rw [slot_put]
      have b2 : VR s2 x (a2.tmps.getD 12 undef) := by have := j4 12; rw [m12] at this; exact this
      exact put_env (a := { tmps := r.tmps, defers := [] }) (dst := some p1) (fun t => ((hrt t).mono k1).mono j1) (fun d hd => by obtain rfl := Option.some.inj hd; rw [hrn]; exact hp1) b2
    obtain ⟨s3, w3, n1, n2, n3⟩ := rnd_spec hC hrnd hi2 hls hlb hr hra hrb hrp henv (by simp [hrn]) (b.atR a2 (.inRegion o3 [2, 3] :: .code (.cond (.tmp 14) .ret .skip) :: .inBlock 1 :: .code (.region i4 o4 false) :: [.inLoop (vlB i1 i2 i3 i4 o1 o2 o3 o4), .inBlock 0])) cs
    rw [Frame.finish_atR, g1] at n2
    simp only [Option.bind_some, g3] at n2
    have he3 : ∀ t, VR s3 ((ρ8.put (some 13) (.bool true)) t) ((a2.put (some 13) (.bool true)).tmps.getD t undef) := put_env (fun t => (j4 t).mono n1) (fun d hd => by obtain rfl := Option.some.inj hd; rw [j5]; decide) (.bool true)
    obtain ⟨ρ9, htail, u0, u5, u6, u7⟩ := vl_tail (P := P) (i1 := i1) (i2 := i2) (i3 := i3) (i4 := i4) (o1 := o1) (o2 := o2) (M := M2) h3 h4 (ρ := ρ8.put (some 13) (.bool true)) (n := .ofNat i) (by rw [put_ne _ _ (by decide), m7, q7]) (put_eq _ _ _)
    obtain ⟨s4, a4, w4, v1, v2, v3, v4, v5, v6⟩ := htail base s3 (a2.put (some 13) (.bool true)) w3 b cs n3.rel.re he3 (by rw [put_size]; exact j5)
    rw [put_ne _ _ (by decide), m0, q0] at u0
    rw [put_ne _ _ (by decide), m5, q5] at u5
    rw [put_ne _ _ (by decide), m6, q6] at u6
    have hii : (Int.ofNat i) = (i : Int) := rfl
    rw [fw_small (by omega) (by omega)] at u7
    have e7 : (Int.ofNat i) + 1 = Int.ofNat (i + 1) := rfl
    rw [e7] at u7
    obtain ⟨s5, w5, a5, x1, x2, x3, x4, x5⟩ := vals_loop hC hp1 h1 h2 h3 h4 hLb hls hlb hr hra hrb hrp hrn hrs n (i + 1) M2 M' (by omega) h ⟨n3.rel.back v3, v3.below.other l _ n3.rcd rfl⟩ (fun t => ((((hrt t).mono k1).mono j1).mono n1).mono v1) v4 v5 u0 u5 u6 u7 b cs
    refine ⟨s5, w5, a5, Inj.le_trans k1 (Inj.le_trans j1 (Inj.le_trans n1 (Inj.le_trans v1 x1))), Steps.trans k2 (Steps.trans j2 (.head hy (Steps.trans n2 (Steps.trans v2 x2)))), x3, ?_, x5⟩
    rw [x4, v6, put_defers, j6, k6]
theorem eLen5_slice {ρ : Env} {M : Mem} {T el : TypeId} {q : Option Addr} {L c : Nat} (hT : P.underlying T = some (.slice el)) (h : ρ 5 = .slice q L c) : eOp P ρ M (.call ⟨.builtin .len, #[.tmp 5], #[T]⟩) = some (.int .i64 (.ofNat L), M) := by
  show eLen P ρ M #[T] (.tmp 5) = _
  simp [eLen, hT, okv, h]
theorem ago_vals (hC : CS P C) {fB : FuncId} {T e el : TypeId} (hB : IsVals P fB T e) {N : Nat} {k : List Item} {ρ : Go.Ri.T Value} {ds : List Deferred} {M M1 M' : Mem} {R : ADone → Env → List Deferred → AW → Prop} {g : Operand} {p1 : Nat} {assign body : Code} {bx L c : Nat} {q : Option Addr}
    (hg : okv P.globals.size (slot ρ) g = some (.func (.func fB) ⟨[]⟩ ⟨[.pointer (some ⟨bx, 0, none⟩)]⟩)) (hT : P.underlying T = some (.slice el))
    (hs : eLoad P (fun _ => .pointer (some ⟨bx, 0, none⟩)) M T (.tmp 0) = some (.slice q L c, M1)) (hL : L ≤ 4611686018427387904) (hp1 : p1 < N)
    (hr : vlRun P C N T e p1 assign body (.slice q L c) ρ L 0 M = some M') (h : AGo P N k (slot ρ) ds M'.abs R) : AGo P N (.code (.rangeFunc g #[p1] assign body) :: k) (slot ρ) ds M.abs R := by
  obtain ⟨fn, i0, i1, i2, i3, i4, o0, o1, o2, o3, o4, tj, tk, tl, tm, tn, ts, hfn, hname, hnt, hres, hbody, h0, h1, h2, h3, h4⟩ := hB.ex
  intro base w0 s a w b cs hst
  have hM1 : M1 = M := quiet_spec (P := P) (ρ := fun _ => .pointer (some ⟨bx, 0, none⟩)) (op := .load T (.tmp 0)) rfl hs
  subst hM1
  let b0 : Frame := { b with roundOf := none }
  have hat : ∀ (a : Act) (t : List Item), b.at a t = b0.atR a t := fun a t => (Frame.atR_of_none (b := b0) rfl a t).symm
  obtain ⟨g1, g2⟩ := okv_spec hg
  have hv := hst.eval g1
  rw [g2] at hv
  obtain ⟨a', c', e1, e2, e3⟩ := hv.func_inv
  have ea : a' = #[] := Array.toList_eq_nil_iff.1 (List.length_eq_zero_iff.1 e2.length.symm)
  subst ea
  obtain ⟨x, rfl⟩ : ∃ x, c' = #[x] := by
    have := e3.length
    rcases c' with ⟨l⟩
    match l, this with
    | [x], _ => exact ⟨x, rfl⟩
  have hx : VR s (.pointer (some ⟨bx, 0, none⟩)) x := by cases e3 with | cons h t => exact h
  let wd : World := w.alloc (.deferred (some []))
  let l : Nat := w.heap.size + 1
  let r : Loop := { state := .ready, pending := none, fn := b0.fn, tmps := a.tmps, params := #[p1], assign, body, defers := w.heap.size }
  let w1 : World := wd.alloc (.loop r)
  let mk : Deferred := { target := .collected w.heap.size, args := #[] }
  have hel : (Instr.enterLoop b0.fn a.tmps #[p1] assign body b0.roundOf).run P w = .ok (l, [mk]) w1 := run_enterLoop_outer ..
  have hres' : (resolve a.eval (rangeCall g l) 0).run P w1 = .ok { target := .fn (.func fB) #[x], args := #[.func (.yield l) #[] #[]] } w1 := by
    have hc : a.eval (.const (.func (.yield l) #[] #[])) = .func (.yield l) #[] #[] := rfl
    simp [resolve, rangeCall, e1, hc, Deferred.ofValue]
  have hinv : (invoke (.fn (.func fB) #[x]) #[.func (.yield l) #[] #[]]).run P w1 = .ok (.enter fB #[.func (.yield l) #[] #[], x]) w1 := by
    simp only [invoke]
    rw [run_callFunc hfn hname hbody]
    rfl
  have hs0 := stepR_rangeFunc (P := P) (b := b0) (a := a) (k := k) (cs := cs) (w := w) hel hres' hinv
  have hsz : wd.heap.size = l := by simp [wd, l]
  have hr1 : Rel P.globals.size base wd s M1.abs w1 := (hst.rel.re.allocObj _).re.allocObj _
  have hrd : w1.heap[l]? = some (.loop r) := by
    rw [← hsz]; exact World.alloc_heap_new wd _
  have hlb : ¬ base l := fun hb => by have := hst.rel.hbase l hb; simp only [l] at this; omega
  obtain ⟨henv, hnn⟩ := init_env (s := s) (args := [.func (.yield l) #[] #[], .pointer (some ⟨bx, 0, none⟩)]) (args' := [.func (.yield l) #[] #[], x]) (N := 16) (.cons (.func _ .nil .nil) (.cons hx .nil)) (by simp)
  let b2 : Frame := { (default : Frame) with fn := fB, kind := .normal, roundOf := none }
  let a2 : Act := { tmps := #[.func (.yield l) #[] #[], x] ++ Array.replicate (16 - 2) undef, defers := [] }
  have henter : Frame.enter P fB #[.func (.yield l) #[] #[], x] .normal = b2.atR a2 [.code (.seq (.region i0 o0 false) (.block 0 (.loop (vlB i1 i2 i3 i4 o1 o2 o3 o4))))] := by
    simp [Frame.enter, Frame.atR, hfn, hbody, hnt, b2, a2]
  have seg0 : Seg P 16 [.code (.seq (.region i0 o0 false) (.block 0 (.loop (vlB i1 i2 i3 i4 o1 o2 o3 o4))))] (vlH i1 i2 i3 i4 o1 o2 o3 o4) (Env.init [.func (.yield l) #[] #[], .pointer (some ⟨bx, 0, none⟩)])
      ((((Env.init [.func (.yield l) #[] #[], .pointer (some ⟨bx, 0, none⟩)]).put (some 5) (.slice q L c)).put (some 6) (.int .i64 (.ofNat L))).put (some 7) (.int .i64 0)) M1.abs M1.abs := by
    refine (Seg.one fun _ _ _ _ => stepR_seq).trans ?_
    refine (Seg.regionN (shp_size h0)).trans ?_
    refine (Seg.shp (N := 16) (i := 0) (rest := [1, 2]) h0 rfl (by decide) (fun c => by simp) (v := .slice q L c) (M' := M1) ?_).trans ?_
    · show eLoad P _ M1 T (.tmp 1) = _
      rw [← hs]; exact eLoad_eq rfl
    refine (Seg.shp (N := 16) (i := 1) (rest := [2]) h0 rfl (by decide) (fun c => by simp) (M' := M1) (eLen5_slice hT (put_eq _ _ _))).trans ?_
    refine (Seg.shp (N := 16) (i := 2) (rest := []) h0 rfl (by decide) (fun c => by simp) (v := .int .i64 0) (M' := M1) rfl).trans ?_
    refine Seg.regionEnd.trans ?_
    exact (Seg.one fun _ _ _ _ => stepR_block).trans (Seg.one fun _ _ _ _ => stepR_loop)
  obtain ⟨s1, a3, w2, k1, k2, k3, k4, k5, k6⟩ := seg0 base s a2 w1 b2 (b0.atR { a with defers := [mk] ++ a.defers } (.inRangeFunc l :: k) :: cs) hr1.re henv hnn
  obtain ⟨s2, w3, a4, j1, j2, j3, j4, j5⟩ := vals_loop hC hp1 h1 h2 h3 h4 hL (Nat.le_of_eq hsz) hlb rfl rfl rfl rfl hst.size rfl L 0 M1 M' (Nat.zero_add L) hr ⟨hr1.back k3, k3.below.other l _ hrd rfl⟩ (fun t => (hst.env t).mono k1) k4 k5
    (by simp only [Env.put_some]; rfl) (by simp only [Env.put_some]; rfl) (by simp only [Env.put_some]; rfl) (put_eq _ _ _) b2 (b0.atR { a with defers := [mk] ++ a.defers } (.inRangeFunc l :: k) :: cs)
  have hs1 : step P (lone (b2.atR a4 []) (b0.atR { a with defers := [mk] ++ a.defers } (.inRangeFunc l :: k) :: cs) w3) = .next (lone { b2.atR a4 [] with mode := .returning } _ w3) := stepR_end rfl
  obtain ⟨v', hv1, _⟩ := ares_0 (P := P) (N := 16) (ρ := fun _ => undef) (aw := M'.abs) hres base wd s2 (Array.replicate 16 undef) w3 j3.rel (fun t => by
    have : (Array.replicate 16 undef).getD t undef = undef := by simp [Array.getD]
    rw [this]; exact VR.undef) (by simp)
  have hlv : Frame.leaving P { b2.atR a4 [] with mode := .returning } w3 (.returned v') := by
    refine ⟨rfl, by show a4.defers = []; rw [j4, k6], rfl, fn, hfn, ?_⟩
    have hi : ∀ t1 t2, results fn t1 = results fn t2 := fun t1 t2 => by unfold results; rw [hres]; simp
    rw [hi _ (Array.replicate 16 undef)]
    exact hv1
  have hs2 := step_leave_returned (c := b0.atR { a with defers := [mk] ++ a.defers } (.inRangeFunc l :: k)) (cs := cs) hlv
  rw [finish_atR_inRangeFunc] at hs2
  have hend := run_endLoop (P := P) j3.rcd (by simp [r])
  have hs3 := stepR_endRangeFunc (P := P) (b := b0) (a := { a with defers := [mk] ++ a.defers }) (k := k) (cs := cs) hend
  have hr4 : Rel P.globals.size base wd s2 M'.abs (w3.putObj l (.loop { r with state := .exhausted })) := j3.rel.putObj j3.rcd rfl (Nat.le_of_eq hsz) hlb _
  have hwd : Keep base w wd := (Keep.refl base w).alloc hst.rel.hbase _
  have hold : ∀ (r' : Nat) (o : Obj), wd.heap[r']? = some o → o.isCells = false → (w3.putObj l (.loop { r with state := .exhausted })).heap[r']? = some o := fun r' o ho hc => hr4.below.other r' o ho hc
  have hst4 : St P.globals.size base w0 s2 (slot ρ) N ds M'.abs { a with defers := [mk] ++ a.defers } (w3.putObj l (.loop { r with state := .exhausted })) := by
    refine ⟨?_, fun t => ((hst.env t).mono k1).mono j1, hst.size, .mark _ ((hst.dfr.mono k1).mono j1), ?_, ?_⟩
    · exact ⟨hr4.fresh, hr4.mfresh, hr4.blk, hr4.sep, hr4.hbase, hr4.glob, (hst.rel.below.trans hwd).trans hr4.below⟩
    · intro r' hr'
      have hr' : r' ∈ w.heap.size :: marks a.defers := hr'
      rcases List.mem_cons.1 hr' with rfl | hr'
      · refine ⟨⟨hst.rel.below.size, fun hb => Nat.lt_irrefl _ (hst.rel.hbase _ hb)⟩, hold _ _ (World.alloc_heap_new w _) rfl⟩
      · obtain ⟨m1, m2⟩ := hst.mrk r' hr'
        exact ⟨m1, hold _ _ (hwd.other r' _ m2 rfl) rfl⟩
    · show (w.heap.size :: marks a.defers).Nodup
      refine List.nodup_cons.2 ⟨fun hm => ?_, hst.nd⟩
      have := (Array.getElem?_eq_some_iff.1 (hst.mrk _ hm).2).1
      omega
  obtain ⟨m, t', a5, w5, q1, s5, d5, ρ5, ds5, aw5, q2, q3⟩ := h base w0 s2 _ _ b cs hst4
  refine ⟨m, t', a5, w5, ?_, s5, d5, ρ5, ds5, aw5, Inj.le_trans k1 (Inj.le_trans j1 q2), q3⟩
  rw [hat]
  refine .head hs0 ?_
  rw [henter]
  refine Steps.trans k2 (Steps.trans j2 (.head hs1 (.head hs2 (.head hs3 ?_))))
  rw [hat] at q1
  exact q1
end
end Go.Ri

set_option linter.unusedSimpArgs false
set_option linter.unusedVariables false
set_option linter.unusedSectionVars false
namespace Go.Am
open Go Go.RowKit
variable [SymE]
structure Makes (P : Program) (o : Oper) (cells : List Value) (elem esz : Nat) (mk : Nat → Value) : Prop where
  pl : plains cells = true
  run : ∀ (f : Operand → Value) (w : World), (execOp f o).run P w = .ok (.value (mk w.heap.size)) (w.alloc (.cells cells.toArray elem (0, 0)))
  vr : ∀ (s : Inj) (b : Nat) (e : Ent), s b = some e → e.off = 0 → VR s (mk b) (mk e.cb)
section
variable {G : Nat} {base : Nat → Prop} {w0 : World} {s : Inj} {aw : AW} {w : World}
theorem Rel.cbLt (h : Rel G base w0 s aw w) {b : Nat} {B : Blk} {e : Ent} (hb : aw.m b = some B) (he : s b = some e) : e.cb < w.heap.size := by
  obtain ⟨e', cs', fz', h1, _, h3, _⟩ := h.blk b B hb
  rw [he] at h1; obtain rfl := Option.some.inj h1
  exact (Array.getElem?_eq_some_iff.1 h3).1
theorem Rel.attach (h : Rel G base w0 s aw w) {cells : List Value} (elem esz : Nat) (hp : plains cells = true) {cb : Nat} (hcb : w.heap[cb]? = some (.cells cells.toArray elem (0, 0))) (hb : ¬ base cb)
    (hs : ∀ b B e, aw.m b = some B → s b = some e → e.cb ≠ cb) :
    ∃ s', s.le s' ∧ s' aw.next = some ⟨cb, 0, cells.length, esz⟩ ∧ Rel G base w0 s' (aw.alloc cells elem esz) w := by
  refine ⟨fun b => if b = aw.next then some ⟨cb, 0, cells.length, esz⟩ else s b, ?_, by simp, ?_⟩
  · intro b e hb
    have hne : b ≠ aw.next := by
      rintro rfl
      rw [h.fresh _ (Nat.le_refl _)] at hb; simp at hb
    simpa [hne] using hb
  have hle : s.le (fun b => if b = aw.next then some ⟨cb, 0, cells.length, esz⟩ else s b) := by
    intro b e hb
    have hne : b ≠ aw.next := by
      rintro rfl
      rw [h.fresh _ (Nat.le_refl _)] at hb; simp at hb
    simpa [hne] using hb
  refine ⟨?_, ?_, ?_, ?_, h.hbase, ?_, h.below⟩
  · intro b hb
    have hb' : aw.next + 1 ≤ b := hb
    simp only [if_neg (show ¬ b = aw.next by omega)]
    exact h.fresh b (by omega)
  · intro b hb
    have hb' : aw.next + 1 ≤ b := hb
    simp only [AW.alloc, if_neg (show ¬ b = aw.next by omega)]
    exact h.mfresh b (by omega)
  · intro b B hb'
    simp only [AW.alloc] at hb'
    by_cases hbn : b = aw.next
    · subst hbn
      simp only [if_true, Option.some.injEq] at hb'
      subst hb'
      refine ⟨⟨cb, 0, cells.length, esz⟩, cells.toArray, (0, 0), by simp, ⟨rfl, fun _ => rfl, fun _ => ⟨rfl, rfl⟩⟩, hcb, by simp, by simp, ?_, ?_⟩
      · intro i v hi
        have hv : VRs s cells cells := VRs.ofPlains hp
        obtain ⟨v', a1, a2⟩ := hv.get hi
        exact ⟨v', by simpa using a1, a2.mono hle⟩
      · intro _
        exact ⟨hb, fun j h1 h2 => by simp⟩
    · simp only [if_neg hbn] at hb'
      obtain ⟨e, cs', fz', h1, h2, h3, h4, h5, h6, h7⟩ := h.blk b B hb'
      refine ⟨e, cs', fz', by simpa [hbn] using h1, h2, h3, h4, h5, ?_, h7⟩
      intro i v hi
      obtain ⟨v', k1, k2⟩ := h6 i v hi
      exact ⟨v', k1, k2.mono hle⟩
  · intro b1 b2 B1 B2 e1 e2 hne hb1 hb2 he1 he2 hrw
    simp only [AW.alloc] at hb1 hb2
    by_cases h1 : b1 = aw.next
    · subst h1
      have h2 : ¬ b2 = aw.next := fun e => hne e.symm
      simp only [if_true, Option.some.injEq, if_neg h2] at he1 he2 hb2
      subst he1
      exact fun e => hs b2 B2 e2 hb2 he2 e.symm
    · simp only [if_neg h1] at hb1 he1
      by_cases h2 : b2 = aw.next
      · subst h2
        simp only [if_true, Option.some.injEq] at he2
        subst he2
        exact hs b1 B1 e1 hb1 he1
      · simp only [if_neg h2] at hb2 he2
        exact h.sep b1 b2 B1 B2 e1 e2 hne hb1 hb2 he1 he2 hrw
  · intro g hg
    obtain ⟨e, h1, h2, h3⟩ := h.glob g hg
    exact ⟨e, hle g e h1, h2, h3⟩
theorem Rel.grow (h : Rel G base w0 s aw w) (o : Obj) : Rel G base w0 s aw (w.alloc o) := by
  refine ⟨h.fresh, h.mfresh, ?_, h.sep, fun k hk => ?_, h.glob, h.below.alloc h.hbase o⟩
  · intro b B hb
    obtain ⟨e, cs', fz', h1, h2, h3, h4⟩ := h.blk b B hb
    refine ⟨e, cs', fz', h1, h2, ?_, h4⟩
    have := (Array.getElem?_eq_some_iff.1 h3).1
    show (w.heap.push _)[e.cb]? = _
    rw [Array.getElem?_push, if_neg (by omega)]
    exact h3
  · have := h.hbase k hk
    show k < (w.heap.push _).size
    simp; omega
theorem Rel.less {bx : Nat → Prop} (h : Rel G bx w0 s aw w) (hb : ∀ k, base k → bx k) : Rel G base w0 s aw w :=
  ⟨h.fresh, h.mfresh, fun b B hB => by
    obtain ⟨e, cs', fz', h1, h2, h3, h4, h5, h6, h7⟩ := h.blk b B hB
    exact ⟨e, cs', fz', h1, h2, h3, h4, h5, h6, fun hr => ⟨fun hk => (h7 hr).1 (hb _ hk), (h7 hr).2⟩⟩, h.sep, fun k hk => h.hbase k (hb k hk), h.glob, h.below.mono hb⟩
theorem Rel.keepOne (h : Rel G base w0 s aw w) {cb : Nat} (hc : cb < w.heap.size) (hs : ∀ b B e, aw.m b = some B → B.rw = true → s b = some e → e.cb ≠ cb) : Rel G (fun k => base k ∨ k = cb) w s aw w :=
  ⟨h.fresh, h.mfresh, fun b B hB => by
    obtain ⟨e, cs', fz', h1, h2, h3, h4, h5, h6, h7⟩ := h.blk b B hB
    refine ⟨e, cs', fz', h1, h2, h3, h4, h5, h6, fun hr => ⟨fun hk => ?_, (h7 hr).2⟩⟩
    rcases hk with hk | hk
    · exact (h7 hr).1 hk
    · exact hs b B e hB hr h1 hk, h.sep, fun k hk => hk.elim (h.hbase k) (fun e => e ▸ hc), h.glob, Keep.refl _ _⟩
end
section
variable {P : Program} {N : Nat} {ops : Array Oper} {i : Nat} {o : Oper} {K : Act → World → Prop} {Q : Exit → Act → World → Prop} {a â : Act} {w : World}
  {base bx : Nat → Prop} {w0 : World} {s1 : Inj} {ρ : Env} {ds : List Deferred} {aw aw' : AW} {v : Value}
theorem gen_val (ho : ops[i]? = some o) (hN : dstsOk N ops = true) (hst : St P.globals.size base w0 s1 ρ N ds aw â w) (hx : Rel P.globals.size bx w s1 aw w) (hb : ∀ k, base k → bx k)
    (hE : execOp a.eval o = execOp â.eval o) (hW : Region.wanted o (yielded ops a.tmps) = Region.wanted o (yielded ops â.tmps)) (hg : wants ops o ρ true) (hv : OpV P o ρ aw v aw')
    (hk : ∀ s' v' w', s1.le s' → St P.globals.size base w0 s' (ρ.put o.dst v) N ds aw' (â.put o.dst v') w' → Rel P.globals.size bx w s' aw' w' → K (a.put o.dst v') w') : wpOp P ops Q i K a w := by
  have hsz : ∀ (j t : Nat), (ops[j]?).bind (fun (o : Oper) => o.dst) = some t → t < â.tmps.size := fun j t hj => by rw [hst.size]; exact dstsOk_get hN hj
  have hd : ∀ d, o.dst = some d → d < N := fun d hd => dstsOk_get hN (j := i) (by simp [ho, hd])
  have hw := wants_spec hst.env hg hsz
  simp only [wpOp, ho, hW, if_pos hw]
  left
  obtain ⟨n, v', w', s', k1, k2, k3, k4, k5⟩ := hv bx w s1 â.eval w hx (fun x hx => hst.eval hx)
  have := hk s' v' w' k3 (hst.put k3 (k4.less hb) hd k5) k4
  unfold Oper.wp
  rw [hE, k1]
  rcases k2 with rfl | ⟨rfl, rfl⟩
  · exact this
  · exact this
theorem gen_skip (ho : ops[i]? = some o) (hN : dstsOk N ops = true) (hst : St P.globals.size base w0 s1 ρ N ds aw â w) (hx : Rel P.globals.size bx w s1 aw w)
    (hW : Region.wanted o (yielded ops a.tmps) = Region.wanted o (yielded ops â.tmps)) (hg : wants ops o ρ false)
    (hk : St P.globals.size base w0 s1 (ρ.put o.dst undef) N ds aw (â.put o.dst undef) w → K (a.put o.dst undef) w) : wpOp P ops Q i K a w := by
  have hsz : ∀ (j t : Nat), (ops[j]?).bind (fun (o : Oper) => o.dst) = some t → t < â.tmps.size := fun j t hj => by rw [hst.size]; exact dstsOk_get hN hj
  have hd : ∀ d, o.dst = some d → d < N := fun d hd => dstsOk_get hN (j := i) (by simp [ho, hd])
  have hw := wants_spec hst.env hg hsz
  simp only [wpOp, ho, hW, hw]
  exact hk (hst.put (Inj.le_refl s1) hst.rel.re hd VR.undef)
theorem gen_call {fid : FuncId} {args : List Value} {R : Value → AW → Prop} (ho : ops[i]? = some o) (hN : dstsOk N ops = true) (hst : St P.globals.size base w0 s1 ρ N ds aw â w) (hx : Rel P.globals.size bx w s1 aw w) (hb : ∀ k, base k → bx k)
    (hE : execOp a.eval o = execOp â.eval o) (hW : Region.wanted o (yielded ops a.tmps) = Region.wanted o (yielded ops â.tmps)) (hg : wants ops o ρ true) (hc : OpC P o ρ fid args)
    (hcall : ACalls P fid args aw fun | .returned v, aw' => R v aw' | .panicked _, _ => False)
    (hk : ∀ s' v v' aw' w', R v aw' → s1.le s' → St P.globals.size base w0 s' (ρ.put o.dst v) N ds aw' (â.put o.dst v') w' → Rel P.globals.size bx w s' aw' w' → K (a.put o.dst v') w') : wpOp P ops Q i K a w := by
  have hsz : ∀ (j t : Nat), (ops[j]?).bind (fun (o : Oper) => o.dst) = some t → t < â.tmps.size := fun j t hj => by rw [hst.size]; exact dstsOk_get hN hj
  have hd : ∀ d, o.dst = some d → d < N := fun d hd => dstsOk_get hN (j := i) (by simp [ho, hd])
  have hw := wants_spec hst.env hg hsz
  simp only [wpOp, ho, hW, if_pos hw]
  left
  obtain ⟨args', k1, k2⟩ := hc s1 â.eval w (fun x hx => hst.eval hx)
  unfold Oper.wp
  rw [hE, k1]
  refine (hcall bx w s1 args' w hx k2).mono ?_
  rintro e w' ⟨s', ae, aw2, hle, hrel, her, hq⟩
  cases her with
  | returned hvv => exact hk s' _ _ aw2 w' hq hle (hst.put hle (hrel.less hb) hd hvv) hrel
  | panicked _ => exact hq.elim
end
end Go.Am

set_option linter.unusedSimpArgs false
set_option linter.unusedVariables false
set_option linter.unusedSectionVars false
namespace Go.Am
open Go Go.RowKit
variable [SymE]
theorem Env.put_comm {ρ : Env} {x y : Option Tmp} (v u : Value) (h : ∀ d, x = some d → y ≠ some d) : (ρ.put x v).put y u = (ρ.put y u).put x v := by
  cases x with
  | none => rfl
  | some x =>
    cases y with
    | none => rfl
    | some y =>
      have hne : x ≠ y := fun e => h x rfl (e ▸ rfl)
      funext t
      simp only [Env.put_some]
      by_cases h1 : t = y
      · subst h1
        rw [if_pos rfl, if_neg (fun e => hne e.symm), if_pos rfl]
      · rw [if_neg h1]
        by_cases h2 : t = x
        · rw [if_pos h2, if_pos h2]
        · rw [if_neg h2, if_neg h2, if_neg h1]
theorem Env.put_put {ρ : Env} (x : Tmp) (v u : Value) : (ρ.put (some x) v).put (some x) u = ρ.put (some x) u := by
  funext t
  simp only [Env.put_some]
  split <;> rfl
theorem act_put_put (a : Act) (x : Tmp) (v u : Value) : (a.put (some x) v).put (some x) u = a.put (some x) u := by
  simp [Act.put]
theorem act_get_ne (a : Act) {x : Option Tmp} {d : Tmp} (v : Value) (h : x ≠ some d) : (a.put x v).tmps[d]? = a.tmps[d]? := by
  cases x with
  | none => rfl
  | some x =>
    have hne : x ≠ d := fun e => h (by rw [e])
    simp [Act.put, Array.getElem?_setIfInBounds_ne hne]
def SX (G : Nat) (base : Nat → Prop) (w0 : World) (s0 : Inj) (N : Nat) (d : Tmp) (cells : List Value) (elem : Nat) (mk : Nat → Value) (lo : Nat) : Bool → Env → List Deferred → AW → Act → World → Prop
  | false, ρ, ds, aw, a, w => ∃ s1, s0.le s1 ∧ St G base w0 s1 ρ N ds aw a w ∧ lo ≤ w.heap.size
  | true, ρ, ds, aw, a, w => ∃ s1 cb, s0.le s1 ∧ St G base w0 s1 (ρ.put (some d) undef) N ds aw (a.put (some d) undef) w ∧ w.heap[cb]? = some (.cells cells.toArray elem (0, 0)) ∧ ¬ base cb ∧ lo ≤ cb ∧ a.tmps[d]? = some (mk cb) ∧
      ∀ b B e, aw.m b = some B → B.rw = true → s1 b = some e → e.cb ≠ cb
def Early (ops : Array Oper) (d : Tmp) (o : Oper) : Prop := d ∉ looks ops o ∧ o.dst ≠ some d ∧ ∀ cs b, o.op ≠ .select cs b
section
variable {P : Program} {N : Nat} {ops : Array Oper} {i : Nat} {o : Oper} {K : Act → World → Prop} {Q : Exit → Act → World → Prop} {a : Act} {w : World}
  {base : Nat → Prop} {w0 : World} {s0 : Inj} {ρ : Env} {ds : List Deferred} {aw aw' : AW} {v : Value} {d : Tmp} {cells : List Value} {elem esz lo : Nat} {mk : Nat → Value} {m : Bool}
theorem looks_off {ρ : Env} {u : Value} (h : d ∉ looks ops o) : Agr ops o ρ (ρ.put (some d) u) := fun t ht => by
  rw [Env.put_some]
  exact if_neg (fun e => h (by rwa [← e]))
theorem SX.next {s1 s' : Inj} {cb : Nat} {v' : Value} {w' : World} (h1 : s0.le s1) (h4 : ¬ base cb) (h3 : w.heap[cb]? = some (.cells cells.toArray elem (0, 0))) (h5 : lo ≤ cb) (h6 : a.tmps[d]? = some (mk cb)) (hq : o.dst ≠ some d) (k1 : s1.le s')
    (k2 : St P.globals.size base w0 s' ((ρ.put (some d) undef).put o.dst v) N ds aw' ((a.put (some d) undef).put o.dst v') w') (k3 : Rel P.globals.size (fun k => base k ∨ k = cb) w s' aw' w') :
    SX P.globals.size base w0 s0 N d cells elem mk lo true (ρ.put o.dst v) ds aw' (a.put o.dst v') w' := by
  refine ⟨s', cb, Inj.le_trans h1 k1, ?_, (k3.below.block cb (.inr rfl)).trans h3, h4, h5, by rw [act_get_ne a v' hq]; exact h6, fun b B e hb hr he => ?_⟩
  · rw [Env.put_comm v undef (fun e he h => hq (he.trans h.symm)), Act.put_comm a v' undef (fun e he h => hq (he.trans h.symm))]
    exact k2
  · obtain ⟨e', cs, fz, g1, _, _, _, _, _, g7⟩ := k3.blk b B hb
    rw [he] at g1; obtain rfl := Option.some.inj g1
    exact fun hc => (g7 hr).1 (.inr hc)
theorem SX.val (h : SX P.globals.size base w0 s0 N d cells elem mk lo m ρ ds aw a w) (hN : dstsOk N ops = true) (ho : ops[i]? = some o) (hq : m = true → Early ops d o)
    (hv : ∀ ρ2, Agr ops o ρ ρ2 → wants ops o ρ2 true ∧ OpV P o ρ2 aw v aw') (hk : ∀ a' w', SX P.globals.size base w0 s0 N d cells elem mk lo m (ρ.put o.dst v) ds aw' a' w' → K a' w') : wpOp P ops Q i K a w := by
  cases m with
  | false =>
    obtain ⟨s1, h1, h2, h3⟩ := h
    obtain ⟨g1, g2⟩ := hv ρ (fun _ _ => rfl)
    exact gen_val ho hN h2 h2.rel.re (fun _ h => h) rfl rfl g1 g2 fun s' v' w' k1 k2 k3 => hk _ _ ⟨s', Inj.le_trans h1 k1, k2, Nat.le_trans h3 k3.below.size⟩
  | true =>
    obtain ⟨s1, cb, h1, h2, h3, h4, h5, h6, h7⟩ := h
    obtain ⟨q1, q2, q3⟩ := hq rfl
    obtain ⟨g1, g2⟩ := hv (ρ.put (some d) undef) (looks_off q1)
    have hcb : cb < w.heap.size := (Array.getElem?_eq_some_iff.1 h3).1
    have hl : ∀ e, some d = some e → e ∉ o.looksAt ops := fun e he => by obtain rfl := Option.some.inj he; exact q1
    exact gen_val ho hN h2 (h2.rel.keepOne hcb h7) (fun _ h => .inl h) (execOp_put (ops := ops) o q3 a (some d) undef hl).symm (wanted_put o a (some d) undef hl).symm g1 g2
      fun s' v' w' k1 k2 k3 => hk _ _ (SX.next h1 h4 h3 h5 h6 q2 k1 k2 k3)
theorem SX.skip (h : SX P.globals.size base w0 s0 N d cells elem mk lo m ρ ds aw a w) (hN : dstsOk N ops = true) (ho : ops[i]? = some o) (hq : m = true → Early ops d o)
    (hv : ∀ ρ2, Agr ops o ρ ρ2 → wants ops o ρ2 false) (hk : ∀ a' w', SX P.globals.size base w0 s0 N d cells elem mk lo m (ρ.put o.dst undef) ds aw a' w' → K a' w') : wpOp P ops Q i K a w := by
  cases m with
  | false =>
    obtain ⟨s1, h1, h2, h3⟩ := h
    exact gen_skip ho hN h2 h2.rel.re rfl (hv ρ (fun _ _ => rfl)) fun k2 => hk _ _ ⟨s1, h1, k2, h3⟩
  | true =>
    obtain ⟨s1, cb, h1, h2, h3, h4, h5, h6, h7⟩ := h
    obtain ⟨q1, q2, q3⟩ := hq rfl
    have hcb : cb < w.heap.size := (Array.getElem?_eq_some_iff.1 h3).1
    have hl : ∀ e, some d = some e → e ∉ o.looksAt ops := fun e he => by obtain rfl := Option.some.inj he; exact q1
    exact gen_skip ho hN h2 h2.rel.re (wanted_put o a (some d) undef hl).symm (hv _ (looks_off q1))
      fun k2 => hk _ _ (SX.next h1 h4 h3 h5 h6 q2 (Inj.le_refl s1) k2 (h2.rel.keepOne hcb h7))
theorem SX.call {fid : FuncId} {args : List Value} {R : Value → AW → Prop} (h : SX P.globals.size base w0 s0 N d cells elem mk lo m ρ ds aw a w) (hN : dstsOk N ops = true) (ho : ops[i]? = some o) (hq : m = true → Early ops d o)
    (hv : ∀ ρ2, Agr ops o ρ ρ2 → wants ops o ρ2 true ∧ OpC P o ρ2 fid args) (hcall : ACalls P fid args aw fun | .returned v, aw' => R v aw' | .panicked _, _ => False)
    (hk : ∀ v aw' a' w', R v aw' → SX P.globals.size base w0 s0 N d cells elem mk lo m (ρ.put o.dst v) ds aw' a' w' → K a' w') : wpOp P ops Q i K a w := by
  cases m with
  | false =>
    obtain ⟨s1, h1, h2, h3⟩ := h
    obtain ⟨g1, g2⟩ := hv ρ (fun _ _ => rfl)
    exact gen_call ho hN h2 h2.rel.re (fun _ h => h) rfl rfl g1 g2 hcall fun s' v v' aw' w' hr k1 k2 k3 => hk _ _ _ _ hr ⟨s', Inj.le_trans h1 k1, k2, Nat.le_trans h3 k3.below.size⟩
  | true =>
    obtain ⟨s1, cb, h1, h2, h3, h4, h5, h6, h7⟩ := h
    obtain ⟨q1, q2, q3⟩ := hq rfl
    obtain ⟨g1, g2⟩ := hv (ρ.put (some d) undef) (looks_off q1)
    have hcb : cb < w.heap.size := (Array.getElem?_eq_some_iff.1 h3).1
    have hl : ∀ e, some d = some e → e ∉ o.looksAt ops := fun e he => by obtain rfl := Option.some.inj he; exact q1
    exact gen_call ho hN h2 (h2.rel.keepOne hcb h7) (fun _ h => .inl h) (execOp_put (ops := ops) o q3 a (some d) undef hl).symm (wanted_put o a (some d) undef hl).symm g1 g2 hcall
      fun s' v v' aw' w' hr k1 k2 k3 => hk _ _ _ _ hr (SX.next h1 h4 h3 h5 h6 q2 k1 k2 k3)
theorem SX.read (h : SX P.globals.size base w0 s0 N d cells elem mk lo m ρ ds aw a w) (hN : dstsOk N ops = true) (ho : ops[i]? = some o) (hq : m = true → Early ops d o)
    (hv : ∀ ρ2, Agr ops o ρ ρ2 → (wants ops o ρ2 true ∧ OpV P o ρ2 aw v aw) ∨ (wants ops o ρ2 false ∧ v = undef) ∨ (wants ops o ρ2 true ∧ ∃ fid args, OpC P o ρ2 fid args ∧ ACalls P fid args aw fun e aw' => e = .returned v ∧ aw' = aw))
    (hk : ∀ a' w', SX P.globals.size base w0 s0 N d cells elem mk lo m (ρ.put o.dst v) ds aw a' w' → K a' w') : wpOp P ops Q i K a w := by
  cases m with
  | false =>
    obtain ⟨s1, h1, h2, h3⟩ := h
    rcases hv ρ (fun _ _ => rfl) with ⟨g1, g2⟩ | ⟨g1, rfl⟩ | ⟨g1, fid, args, g2, g3⟩
    · exact gen_val ho hN h2 h2.rel.re (fun _ h => h) rfl rfl g1 g2 fun s' v' w' k1 k2 k3 => hk _ _ ⟨s', Inj.le_trans h1 k1, k2, Nat.le_trans h3 k3.below.size⟩
    · exact gen_skip ho hN h2 h2.rel.re rfl g1 fun k2 => hk _ _ ⟨s1, h1, k2, h3⟩
    · refine gen_call (R := fun u aw' => u = v ∧ aw' = aw) ho hN h2 h2.rel.re (fun _ h => h) rfl rfl g1 g2 (g3.mono fun e aw' he => by obtain ⟨rfl, rfl⟩ := he; exact ⟨rfl, rfl⟩) ?_
      rintro s' u v' aw' w' ⟨rfl, rfl⟩ k1 k2 k3
      exact hk _ _ ⟨s', Inj.le_trans h1 k1, k2, Nat.le_trans h3 k3.below.size⟩
  | true =>
    obtain ⟨s1, cb, h1, h2, h3, h4, h5, h6, h7⟩ := h
    obtain ⟨q1, q2, q3⟩ := hq rfl
    have hcb : cb < w.heap.size := (Array.getElem?_eq_some_iff.1 h3).1
    have hl : ∀ e, some d = some e → e ∉ o.looksAt ops := fun e he => by obtain rfl := Option.some.inj he; exact q1
    have hE := (execOp_put (ops := ops) o q3 a (some d) undef hl).symm
    have hW := (wanted_put o a (some d) undef hl).symm
    rcases hv (ρ.put (some d) undef) (looks_off q1) with ⟨g1, g2⟩ | ⟨g1, rfl⟩ | ⟨g1, fid, args, g2, g3⟩
    · exact gen_val ho hN h2 (h2.rel.keepOne hcb h7) (fun _ h => .inl h) hE hW g1 g2 fun s' v' w' k1 k2 k3 => hk _ _ (SX.next h1 h4 h3 h5 h6 q2 k1 k2 k3)
    · exact gen_skip ho hN h2 h2.rel.re hW g1 fun k2 => hk _ _ (SX.next h1 h4 h3 h5 h6 q2 (Inj.le_refl s1) k2 (h2.rel.keepOne hcb h7))
    · refine gen_call (R := fun u aw' => u = v ∧ aw' = aw) ho hN h2 (h2.rel.keepOne hcb h7) (fun _ h => .inl h) hE hW g1 g2 (g3.mono fun e aw' he => by obtain ⟨rfl, rfl⟩ := he; exact ⟨rfl, rfl⟩) ?_
      rintro s' u v' aw' w' ⟨rfl, rfl⟩ k1 k2 k3
      exact hk _ _ (SX.next h1 h4 h3 h5 h6 q2 k1 k2 k3)
theorem SX.make (h : SX P.globals.size base w0 s0 N d cells elem mk lo false ρ ds aw a w) (ho : ops[i]? = some o) (hg : o.guard = none) (hd : o.dst = some d) (hdN : d < N) (hm : Makes P o cells elem esz mk)
    (hk : ∀ a' w', SX P.globals.size base w0 s0 N d cells elem mk lo true ρ ds aw a' w' → K a' w') : wpOp P ops Q i K a w := by
  obtain ⟨s1, h1, h2, h3⟩ := h
  have hw : Region.wanted o (yielded ops a.tmps) = true := by unfold Region.wanted; rw [hg]
  simp only [wpOp, ho, if_pos hw]
  left
  unfold Oper.wp
  rw [hm.run a.eval w]
  have hda : d < a.tmps.size := by rw [h2.size]; exact hdN
  refine hk _ _ ⟨s1, w.heap.size, h1, ?_, ?_, fun hb => absurd (h2.rel.hbase _ hb) (Nat.lt_irrefl _), h3, ?_, fun b B e hb hr he => ?_⟩
  · rw [hd, act_put_put]
    refine ⟨h2.rel.grow _, put_env h2.env (fun e he => by obtain rfl := Option.some.inj he; exact hda) VR.undef, by rw [put_size]; exact h2.size, by rw [put_defers]; exact h2.dfr, ?_, by rw [put_defers]; exact h2.nd⟩
    rw [put_defers]
    intro r hr
    obtain ⟨g1, g2⟩ := h2.mrk r hr
    exact ⟨g1, by rw [Below.heap_alloc _ _ _ (Array.getElem?_eq_some_iff.1 g2).1]; exact g2⟩
  · show (w.heap.push _)[w.heap.size]? = _
    simp
  · rw [hd]; simp [Act.put, hda]
  · have := h2.rel.cbLt hb he
    omega
theorem SX.meet {wS : World} {awS : AW} (h : SX P.globals.size base w0 s0 N d cells elem mk wS.heap.size true ρ ds aw a w) (hS : Rel P.globals.size base w0 s0 awS wS) (hm : Makes P o cells elem esz mk)
    (hro : ∀ b B, b < aw.next → aw.m b = some B → B.rw = false → ∃ B0, awS.m b = some B0) :
    ∃ s', s0.le s' ∧ St P.globals.size base w0 s' (ρ.put (some d) (mk aw.next)) N ds (aw.alloc cells elem esz) a w := by
  obtain ⟨s1, cb, h1, h2, h3, h4, h5, h6, h7⟩ := h
  obtain ⟨s', k1, k2, k3⟩ := h2.rel.attach elem esz hm.pl h3 h4 (fun b B e hb he => by
    cases hr : B.rw with
    | true => exact h7 b B e hb hr he
    | false =>
      have hlt : b < aw.next := by
        rcases Nat.lt_or_ge b aw.next with h | h
        · exact h
        · rw [h2.rel.mfresh b h] at hb; cases hb
      obtain ⟨B0, hB0⟩ := hro b B hlt hb hr
      obtain ⟨e0, cs, fz, g1, _⟩ := hS.blk b B0 hB0
      have g2 := h1 b e0 g1
      rw [he] at g2; obtain rfl := Option.some.inj g2
      have := hS.cbLt hB0 g1
      omega)
  refine ⟨s', Inj.le_trans h1 k1, k3, fun t => ?_, by have := h2.size; rwa [put_size] at this, by have := h2.dfr.mono k1; rwa [put_defers] at this, by have := h2.mrk; rwa [put_defers] at this, by have := h2.nd; rwa [put_defers] at this⟩
  rw [put_at]
  by_cases ht : t = d
  · rw [if_pos ht, ht]
    have : a.tmps.getD d undef = mk cb := by
      have := (Array.getElem?_eq_some_iff.1 h6)
      obtain ⟨q1, q2⟩ := this
      simp [Array.getD, q1, q2]
    rw [this]
    exact hm.vr s' _ _ k2 rfl
  · rw [if_neg ht]
    have := (h2.env t).mono k1
    rw [put_at, if_neg ht] at this
    have e : (a.put (some d) undef).tmps.getD t undef = a.tmps.getD t undef := by
      have := act_get_ne a (x := some d) (d := t) undef (fun e => ht (Option.some.inj e).symm)
      simp only [Array.getD_eq_getD_getElem?, this]
    rwa [e] at this
theorem Makes.opv {o : Oper} {ρ : Env} (hm : Makes P o cells elem esz mk) : OpV P o ρ aw (mk aw.next) (aw.alloc cells elem esz) := by
  intro base w0 s f w hr hf
  have hv : VRs s cells cells := VRs.ofPlains hm.pl
  obtain ⟨s', k1, k2, k3⟩ := hr.alloc (cells := cells) (cs := cells.toArray) elem esz (by simp) (by simp) (fun i v hi => by
    obtain ⟨v', a1, a2⟩ := hv.get hi
    exact ⟨v', by simpa using a1, a2⟩) (0, 0) (by simp)
  exact ⟨_, mk w.heap.size, _, s', hm.run f w, .inl rfl, k1, k3, hm.vr s' _ _ k2 rfl⟩
end
end Go.Am
