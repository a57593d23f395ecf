/- The interpreter: regions, frames, calls. -/
import Derived.Test.YtfoceofohlpafaaDoorRi7
set_option linter.unusedSimpArgs false
set_option linter.unusedVariables false
set_option linter.unusedSectionVars false
namespace Go.Ri
open Go Go.Am Go.RowKit
noncomputable def vEq : Nat → Value → Value → Bool := Nat.rec (motive := fun _ => Value → Value → Bool) (fun _ _ => false) fun _ ih a b => match a, b with
  | .bool p, .bool q => p == q
  | .int k m, .int k' n => decide (k = k') && decide (m = n)
  | .string ⟨⟨x⟩⟩, .string ⟨⟨y⟩⟩ => decide (x = y)
  | .pointer none, .pointer none => true
  | .pointer (some ⟨b1, o1, none⟩), .pointer (some ⟨b2, o2, none⟩) => Nat.beq b1 b2 && Nat.beq o1 o2
  | .slice none l c, .slice none l' c' => Nat.beq l l' && Nat.beq c c'
  | .slice (some ⟨b1, o1, none⟩) l c, .slice (some ⟨b2, o2, none⟩) l' c' => Nat.beq b1 b2 && (Nat.beq o1 o2 && (Nat.beq l l' && Nat.beq c c'))
  | .nilFunc, .nilFunc => true
  | .nilIface, .nilIface => true
  | .map none, .map none => true
  | .map (some x), .map (some y) => Nat.beq x y
  | .iface t u, .iface t' u' => Nat.beq t t' && ih u u'
  | .func (.func f) ⟨a⟩ ⟨c⟩, .func (.func f') ⟨a'⟩ ⟨c'⟩ => Nat.beq f f' && (lEq ih a a' && lEq ih c c')
  | .agg ⟨a⟩, .agg ⟨b⟩ => lEq ih a b
  | .tuple ⟨a⟩, .tuple ⟨b⟩ => lEq ih a b
  | _, _ => false
where
  lEq (e : Value → Value → Bool) : List Value → List Value → Bool := List.rec (motive := fun _ => List Value → Bool) (fun l => match l with | [] => true | _ => false) fun a _ ih l => match l with
    | [] => false
    | b :: l => e a b && ih l
theorem lEq_spec {e : Value → Value → Bool} (he : ∀ a b, e a b = true → a = b) : ∀ {a b : List Value}, vEq.lEq e a b = true → a = b
  | [], [], _ => rfl
  | [], _ :: _, h => by cases h
  | _ :: _, [], h => by cases h
  | x :: a, y :: b, h => by
    have h : (e x y && vEq.lEq e a b) = true := h
    rw [Bool.and_eq_true] at h
    rw [he x y h.1, lEq_spec he h.2]
theorem vEq_spec : ∀ (n : Nat) (a b : Value), vEq n a b = true → a = b
  | 0, a, b, h => by cases h
  | n + 1, a, b, h0 => by
    have ih := vEq_spec n
    have h : (match (generalizing := false) a, b with
      | .bool p, .bool q => p == q
      | .int k m, .int k' n => decide (k = k') && decide (m = n)
      | .string ⟨⟨x⟩⟩, .string ⟨⟨y⟩⟩ => decide (x = y)
      | .pointer none, .pointer none => true
      | .pointer (some ⟨b1, o1, none⟩), .pointer (some ⟨b2, o2, none⟩) => Nat.beq b1 b2 && Nat.beq o1 o2
      | .slice none l c, .slice none l' c' => Nat.beq l l' && Nat.beq c c'
      | .slice (some ⟨b1, o1, none⟩) l c, .slice (some ⟨b2, o2, none⟩) l' c' => Nat.beq b1 b2 && (Nat.beq o1 o2 && (Nat.beq l l' && Nat.beq c c'))
      | .nilFunc, .nilFunc => true
      | .nilIface, .nilIface => true
      | .map none, .map none => true
      | .map (some x), .map (some y) => Nat.beq x y
      | .iface t u, .iface t' u' => Nat.beq t t' && vEq n u u'
      | .func (.func f) ⟨a⟩ ⟨c⟩, .func (.func f') ⟨a'⟩ ⟨c'⟩ => Nat.beq f f' && (vEq.lEq (vEq n) a a' && vEq.lEq (vEq n) c c')
      | .agg ⟨a⟩, .agg ⟨b⟩ => vEq.lEq (vEq n) a b
      | .tuple ⟨a⟩, .tuple ⟨b⟩ => vEq.lEq (vEq n) a b
      | _, _ => false) = true := h0
    clear h0
    split at h
    all_goals try simp only [Bool.and_eq_true, beq_iff_eq, decide_eq_true_eq, Nat.beq_eq] at h
    · rw [h]
    · rw [h.1, h.2]
    · rw [h]
    · rfl
    · rw [h.1, h.2]
    · rw [h.1, h.2]
    · rw [h.1, h.2.1, h.2.2.1, h.2.2.2]
    · rfl
    · rfl
    · rfl
    · rw [h]
    · rw [h.1, ih _ _ h.2]
    · rw [h.1, lEq_spec ih h.2.1, lEq_spec ih h.2.2]
    · rw [lEq_spec ih h]
    · rw [lEq_spec ih h]
    · cases h
variable [SymE]
variable [FT] [FTok]

abbrev Caller := FuncId → List Value → Mem → Option (AEnd × Mem)
def CS (P : Program) (C : Caller) : Prop := ∀ f args M e M', C f args M = some (e, M') → ACalls P f args M.abs fun e' aw' => e' = e ∧ aw' = M'.abs

section
variable {R : Type}
noncomputable def doT (t : T Value) (k : T Value → R) : R := match t with
  | .leaf => k .leaf
  | .node a b c => k (.node a b c)
theorem doT_eq (t : T Value) (k : T Value → R) : doT t k = k t := by cases t <;> rfl
noncomputable def doM (M : Mem) (k : Mem → R) : R := match M with
  | ⟨.leaf, n⟩ => doN n fun n => k ⟨.leaf, n⟩
  | ⟨.node a b c, n⟩ => doN n fun n => k ⟨.node a b c, n⟩
theorem doM_eq (M : Mem) (k : Mem → R) : doM M k = k M := by
  obtain ⟨bl, n⟩ := M
  cases bl <;> simp only [doM, doN_eq]
end

inductive OpsR where
  | norm (ρ : T Value) (ds : List Deferred) (M : Mem)
  | pan (ch : List PanicEntry) (ρ : T Value) (ds : List Deferred) (M : Mem)
  | bad
def OpsR.holds (Kn : Env → List Deferred → AW → Prop) (Kp : List PanicEntry → Env → List Deferred → AW → Prop) : OpsR → Prop
  | .norm ρ ds M => Kn (slot ρ) ds M.abs
  | .pan ch ρ ds M => Kp ch (slot ρ) ds M.abs
  | .bad => False
def OpsR.holdsX (ops : Array Oper) (Kn : Env → List Deferred → AW → Prop) (Kp : List PanicEntry → Env → List Deferred → AW → Prop) : OpsR → Prop
  | .norm ρ ds M => Kn (slot ρ) ds M.abs
  | .pan ch ρ ds M => ∀ ρ', Off ops (slot ρ) ρ' → Kp ch ρ' ds M.abs
  | .bad => False

/-- one operation, and what follows -/
noncomputable def op1 (P : Program) (X : Exts) (C : Caller) (ops : Array Oper) (o : Oper) (ρ : T Value) (ds : List Deferred) (M : Mem) (next : T Value → List Deferred → Mem → OpsR) : OpsR := match gd ops (slot ρ) o.guard with
  | none => .bad
  | some false => doT (putS ρ o.dst undef) fun ρ => next ρ ds M
  | some true => (match o.op with
    | .call ⟨.value z, ⟨xs⟩, _⟩ => (match calls P (slot ρ) z xs with
      | none => (match extR P X (slot ρ) z xs with
        | none => .bad
        | some v => doV v fun v => doT (putS ρ o.dst v) fun ρ => next ρ ds M)
      | some (g, l) => doL l fun l => (match C g l M with
        | none => .bad
        | some (.returned v, M') => doV v fun v => doT (putS ρ o.dst v) fun ρ => doM M' fun M' => next ρ ds M'
        | some (.panicked ch, M') => .pan ch ρ ds M'))
    | .defer ⟨.value z, ⟨xs⟩, _⟩ => (match defers P (slot ρ) z xs with
      | none => .bad
      | some d => doT (putS ρ o.dst undef) fun ρ => next ρ (d :: ds) M)
    | .panic x => (match okv P.globals.size (slot ρ) x with
      | some (.iface u z) => .pan [⟨.iface u z, false, false⟩] ρ ds M
      | _ => .bad)
    | op => (match eOp P (slot ρ) M op with
      | none => .bad
      | some (v, M') => doV v fun v => doT (putS ρ o.dst v) fun ρ => doM M' fun M' => next ρ ds M'))
noncomputable def ops1 (P : Program) (X : Exts) (C : Caller) (ops : Array Oper) (l : List Oper) : T Value → List Deferred → Mem → OpsR := List.rec (motive := fun _ => T Value → List Deferred → Mem → OpsR) (fun ρ ds M => .norm ρ ds M)
  (fun o _ ih ρ ds M => op1 P X C ops o ρ ds M ih) l

section
variable {P : Program} {X : Exts} {C : Caller} {N : Nat} {ops : Array Oper} {Kn : Env → List Deferred → AW → Prop} {Kp : List PanicEntry → Env → List Deferred → AW → Prop}
theorem slot_put (ρ : T Value) (d : Option Tmp) (v : Value) : slot (putS ρ d v) = (show Env from slot ρ).put d v := putS_spec ρ d v
theorem op1_spec (hX : ExtOk P X) (hC : CS P C) (hN : dstsOk N ops = true) {o : Oper} {i : Nat} {rest : List Nat} (ho : ops[i]? = some o) {next : T Value → List Deferred → Mem → OpsR}
    (hn : ∀ ρ ds M, (next ρ ds M).holds Kn Kp → AOps P N ops rest (slot ρ) ds M.abs Kn Kp) {ρ : T Value} {ds : List Deferred} {M : Mem} (h : (op1 P X C ops o ρ ds M next).holds Kn Kp) : AOps P N ops (i :: rest) (slot ρ) ds M.abs Kn Kp := by
  unfold op1 at h
  split at h
  · exact h.elim
  · rename_i hg
    rw [doT_eq] at h
    have := hn _ _ _ h
    rw [slot_put] at this
    exact aops_skip hN ho (gd_spec hg Agr.refl) this
  · rename_i hg
    have hw := gd_spec (ρ := slot ρ) (ops := ops) (o := o) hg Agr.refl
    generalize hop : o.op = p at h
    split at h
    · rename_i z xs ts
      split at h
      · split at h
        · exact h.elim
        rename_i v hv
        rw [doV_eq, doT_eq] at h
        have := hn _ _ _ h
        rw [slot_put] at this
        exact aops_val hN ho hw (extR_spec hX hop hv) this
      rename_i g l hc
      rw [doL_eq] at h
      split at h
      · exact h.elim
      · rename_i v M' hr
        rw [doV_eq, doT_eq, doM_eq] at h
        have := hn _ _ _ h
        rw [slot_put] at this
        refine aops_call hN ho hw (calls_spec hop hc) (ACalls.mono (hC _ _ _ _ _ hr) fun e aw' he => ?_)
        obtain ⟨rfl, rfl⟩ := he
        exact this
      · rename_i ch M' hr
        refine aops_call hN ho hw (calls_spec hop hc) (ACalls.mono (hC _ _ _ _ _ hr) fun e aw' he => ?_)
        obtain ⟨rfl, rfl⟩ := he
        exact h
    · rename_i z xs ts
      split at h
      · exact h.elim
      rename_i d hd
      rw [doT_eq] at h
      have := hn _ _ _ h
      rw [slot_put] at this
      exact aops_defer hN ho hw (defers_spec hop hd) this
    · rename_i x
      split at h
      · rename_i u z hx
        obtain ⟨x1, x2⟩ := okv_spec hx
        exact aops_panic hN ho hw (opp_panic hop x1 x2) h
      · exact h.elim
    · split at h
      · exact h.elim
      rename_i v M' hv
      rw [doV_eq, doT_eq, doM_eq] at h
      have := hn _ _ _ h
      rw [slot_put] at this
      exact aops_val hN ho hw (eOp_spec (by rw [hop]; exact hv)) this
theorem ops1_spec (hX : ExtOk P X) (hC : CS P C) (hN : dstsOk N ops = true) : ∀ (l : List Oper) (i : Nat) (ρ : T Value) (ds : List Deferred) (M : Mem), ops.toList.drop i = l → (ops1 P X C ops l ρ ds M).holds Kn Kp → AOps P N ops (List.range' i l.length) (slot ρ) ds M.abs Kn Kp
  | [], i, ρ, ds, M, hl, h => aops_nil h
  | o :: l, i, ρ, ds, M, hl, h => by
    have hi : i < ops.toList.length := by
      rcases Nat.lt_or_ge i ops.toList.length with h | h
      · exact h
      · rw [List.drop_eq_nil_of_le h] at hl; cases hl
    rw [List.drop_eq_getElem_cons hi] at hl
    injection hl with h1 h2
    have ho : ops[i]? = some o := by
      rw [← h1]
      have hi' : i < ops.size := by simpa using hi
      simp [hi']
    exact op1_spec hX hC hN ho (fun ρ ds M h => ops1_spec hX hC hN l (i + 1) ρ ds M h2 h) h
theorem region_spec (hX : ExtOk P X) (hC : CS P C) (hN : dstsOk N ops = true) {ρ : T Value} {ds : List Deferred} {M : Mem} (h : (ops1 P X C ops ops.toList ρ ds M).holds Kn Kp) : AOps P N ops (List.range ops.size) (slot ρ) ds M.abs Kn Kp := by
  have := ops1_spec hX hC hN ops.toList 0 ρ ds M rfl h
  rw [Array.length_toList] at this
  rw [List.range_eq_range']
  exact this
end

/-! regions of open order -/
noncomputable def hval (P : Program) (ops : Array Oper) (o : Oper) (ρ : Env) (M : Mem) : Option Value := match gd ops ρ o.guard with
  | none => none
  | some false => some undef
  | some true => bif quiet P o.op then (match eOp P ρ M o.op with
    | none => none
    | some (v, _) => some v) else none
theorem hval_spec {P : Program} {ops : Array Oper} {o : Oper} {ρ : Env} {M : Mem} {v : Value} (h : hval P ops o ρ M = some v) : HeadOp P ops o ρ M.abs v := by
  intro ρ' hag
  unfold hval at h
  split at h
  · cases h
  · rename_i hg
    simp only [Option.some.injEq] at h
    exact .inr (.inl ⟨gd_spec hg hag, h.symm⟩)
  · rename_i hg
    rw [cond_some] at h
    obtain ⟨hq, h⟩ := h
    split at h
    · cases h
    rename_i u M' hu
    simp only [Option.some.injEq] at h
    subst h
    obtain rfl := quiet_spec hq hu
    refine .inl ⟨gd_spec hg hag, eOp_spec ?_⟩
    rw [eOp_congr (agr_x hag)]; exact hu
noncomputable def heads (P : Program) (ops : Array Oper) (M : Mem) (hs : List Nat) : T Value → Option (T Value) := List.rec (motive := fun _ => T Value → Option (T Value)) (fun ρ => some ρ)
  (fun i _ ih ρ => match ops[i]? with
    | none => none
    | some o => (match hval P ops o (slot ρ) M with
      | none => none
      | some v => doV v fun v => doT (putS ρ o.dst v) fun ρ => ih ρ)) hs
/-- these read what their slots say -/
noncomputable def again (P : Program) (ops : Array Oper) (ρ : Env) (M : Mem) (q : List Nat) : Bool := List.rec (motive := fun _ => Bool) true
  (fun i _ ih => match ops[i]? with
    | none => false
    | some o => (match o.dst with
      | none => false
      | some d => (match hval P ops o ρ M with
        | none => false
        | some v => vEq 8 v (ρ d) && ih))) q
theorem again_spec {P : Program} {ops : Array Oper} {ρ : Env} {M : Mem} : ∀ {q : List Nat}, again P ops ρ M q = true → FFl P ops q ρ M.abs
  | [], _ => fun i hi => by simp at hi
  | i :: q, h => by
    have h : (match ops[i]? with
      | none => false
      | some o => (match o.dst with
        | none => false
        | some d => (match hval P ops o ρ M with
          | none => false
          | some v => vEq 8 v (ρ d) && again P ops ρ M q))) = true := h
    split at h
    · cases h
    rename_i o ho
    split at h
    · cases h
    rename_i d hd
    split at h
    · cases h
    rename_i v hvv
    rename_i h
    rw [Bool.and_eq_true] at h
    obtain ⟨ha, hb⟩ := h
    intro j hj o' ho' d' hd'
    rcases List.mem_cons.1 hj with rfl | hj
    · rw [ho] at ho'
      obtain rfl := Option.some.inj ho'
      rw [hd] at hd'
      obtain rfl := Option.some.inj hd'
      rw [← vEq_spec _ _ _ ha]
      exact hval_spec hvv
    · exact again_spec hb j hj o' ho' d' hd'
theorem heads_spec {P : Program} {ops : Array Oper} {M : Mem} : ∀ {hs : List Nat} {ρ ρ' : T Value}, heads P ops M hs ρ = some ρ' → OffL ops hs (slot ρ) (slot ρ')
  | [], ρ, ρ', h => by
    have h : some ρ = some ρ' := h
    simp only [Option.some.injEq] at h
    subst h
    exact fun _ _ => rfl
  | i :: hs, ρ, ρ', h => by
    have h : (match ops[i]? with
      | none => none
      | some o => (match hval P ops o (slot ρ) M with
        | none => none
        | some v => doV v fun v => doT (putS ρ o.dst v) fun ρ => heads P ops M hs ρ)) = some ρ' := h
    split at h
    · cases h
    rename_i o ho
    split at h
    · cases h
    rename_i v hvv
    rw [doV_eq, doT_eq] at h
    have := heads_spec h
    intro t ht
    rw [this t fun j hj => ht j (by simp [hj]), show slot (putS ρ o.dst v) t = ((show Env from slot ρ).put o.dst v) t from congrFun (putS_spec ρ o.dst v) t]
    have e1 : dstOf ops i = o.dst := by simp [dstOf, ho]
    have hne := ht i (by simp)
    rw [e1] at hne
    cases hd : o.dst with
    | none => rfl
    | some d => rw [put_at, if_neg (fun h => hne (by rw [hd, h]))]
noncomputable def tailR (P : Program) (X : Exts) (C : Caller) (ops : Array Oper) (tl : Tl) : T Value → List Deferred → Mem → OpsR := List.rec (motive := fun _ => T Value → List Deferred → Mem → OpsR) (fun ρ ds M => .norm ρ ds M)
  (fun tq _ ih ρ ds M => match ops[tq.1]? with
    | none => .bad
    | some o => (match o.op with
      | .defer _ => .bad
      | _ => op1 P X C ops o ρ ds M fun ρ ds M => (match heads P ops M tq.2.2 ρ with
        | none => .bad
        | some ρ => bif again P ops (slot ρ) M (tq.2.1 ++ tq.2.2) then ih ρ ds M else .bad))) tl
section
variable {P : Program} {X : Exts} {C : Caller} {N : Nat} {ops : Array Oper} {Kn : Env → List Deferred → AW → Prop} {Kp : List PanicEntry → Env → List Deferred → AW → Prop}
theorem tail_spec (hX : ExtOk P X) (hC : CS P C) : ∀ {tl : Tl} {ρ : T Value} {ds : List Deferred} {M : Mem}, (tailR P X C ops tl ρ ds M).holdsX ops Kn Kp → LinT P ops Kn Kp tl (slot ρ) ds M.abs
  | [], ρ, ds, M, h => h
  | (t, q, nh) :: tl, ρ, ds, M, h => by
    have ih := fun {ρ ds M} => tail_spec hX hC (tl := tl) (ρ := ρ) (ds := ds) (M := M)
    have h : OpsR.holdsX ops Kn Kp (match ops[t]? with
      | none => .bad
      | some o => (match o.op with
        | .defer _ => .bad
        | _ => op1 P X C ops o ρ ds M fun ρ ds M => (match heads P ops M nh ρ with
          | none => .bad
          | some ρ => bif again P ops (slot ρ) M (q ++ nh) then tailR P X C ops tl ρ ds M else .bad))) := h
    split at h
    · exact h.elim
    rename_i o ho
    have nx : ∀ {ρ ds M}, OpsR.holdsX ops Kn Kp (match heads P ops M nh ρ with
        | none => .bad
        | some ρ => bif again P ops (slot ρ) M (q ++ nh) then tailR P X C ops tl ρ ds M else .bad) → ∃ ρ2, OffL ops nh (slot ρ) ρ2 ∧ FFl P ops (q ++ nh) ρ2 M.abs ∧ LinT P ops Kn Kp tl ρ2 ds M.abs := by
      intro ρ ds M h
      split at h
      · exact h.elim
      rename_i ρ2 hh
      cases hb : again P ops (slot ρ2) M (q ++ nh) with
      | false => rw [hb] at h; exact h.elim
      | true => rw [hb] at h; exact ⟨_, heads_spec hh, again_spec hb, ih h⟩
    split at h
    · exact h.elim
    rename_i hnd
    refine ⟨o, ho, ?_⟩
    unfold op1 at h
    split at h
    · exact h.elim
    · rename_i hg
      rw [doT_eq] at h
      have := nx h
      rw [slot_put] at this
      exact .skip (fun ρ' hag => gd_spec hg hag) this
    · rename_i hg
      generalize hop : o.op = p at h
      split at h
      · rename_i z xs ts
        have hxx : ∀ ρ', Agr ops o (slot ρ) ρ' → AgreeX P.globals.size (slot ρ) ρ' (z :: xs) := fun ρ' hag => by
          have hx := agr_x (G := P.globals.size) hag
          rw [hop] at hx
          intro y hy
          refine hx y ?_
          simp only [Op.operands, Call.operands]
          rcases List.mem_cons.1 hy with rfl | hy
          · simp
          · simp; exact .inr hy
        split at h
        · split at h
          · exact h.elim
          rename_i v hv
          rw [doV_eq, doT_eq] at h
          have := nx h
          rw [slot_put] at this
          refine .val (fun ρ' hag => ⟨gd_spec hg hag, extR_spec hX hop ?_⟩) this
          rw [extR_congr (ρ := slot ρ) (hxx ρ' hag)]; exact hv
        rename_i g l hc
        rw [doL_eq] at h
        have hcall : ∀ ρ', Agr ops o (slot ρ) ρ' → wants ops o ρ' true ∧ OpC P o ρ' g l := fun ρ' hag => by
          refine ⟨gd_spec hg hag, calls_spec hop ?_⟩
          rw [calls_congr (ρ := slot ρ)]
          · exact hc
          · have hx := agr_x (G := P.globals.size) hag
            rw [hop] at hx
            intro y hy
            refine hx y ?_
            simp only [Op.operands, Call.operands]
            rcases List.mem_cons.1 hy with rfl | hy
            · simp
            · simp; exact .inr hy
        split at h
        · exact h.elim
        · rename_i v M' hr
          rw [doV_eq, doT_eq, doM_eq] at h
          have := nx h
          rw [slot_put] at this
          refine .call hcall (ACalls.mono (hC _ _ _ _ _ hr) fun e aw' he => ?_)
          obtain ⟨rfl, rfl⟩ := he
          exact this
        · rename_i ch M' hr
          refine .call hcall (ACalls.mono (hC _ _ _ _ _ hr) fun e aw' he => ?_)
          obtain ⟨rfl, rfl⟩ := he
          exact h
      · rename_i z xs ts
        exact absurd hop (hnd _)
      · rename_i x
        split at h
        · rename_i u z hx
          refine .panic (fun ρ' hag => ⟨gd_spec hg hag, ?_⟩) h
          have hx' : okv P.globals.size ρ' x = some (.iface u z) := by
            rw [agr_x (G := P.globals.size) hag x (by rw [hop]; simp [Op.operands])]; exact hx
          obtain ⟨x1, x2⟩ := okv_spec hx'
          exact opp_panic hop x1 x2
        · exact h.elim
      · split at h
        · exact h.elim
        rename_i v M' hv'
        rw [doV_eq, doT_eq, doM_eq] at h
        have := nx h
        rw [slot_put] at this
        refine .val (fun ρ' hag => ⟨gd_spec hg hag, eOp_spec ?_⟩) this
        rw [eOp_congr (agr_x hag), hop]; exact hv'
end
end Go.Ri
