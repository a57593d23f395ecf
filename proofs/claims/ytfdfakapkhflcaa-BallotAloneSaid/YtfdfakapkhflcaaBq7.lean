/- The interpreter, not staged, with ranges over slices.Values and blocks made in any order. -/
import Derived.Test.YtfdfakapkhflcaaBq6
import Derived.Test.YtfdfakapkhflcaaL3
set_option linter.unusedSimpArgs false
set_option linter.unusedVariables false
set_option linter.unusedSectionVars false
namespace Go.Ri
open Go Go.Am Go.RowKit
variable [SymE]
section
variable [FT] [FTok]
abbrev VBs := FuncId → Option (TypeId × TypeId)
def VBok (P : Program) (VB : VBs) : Prop := ∀ f tS e, VB f = some (tS, e) → IsVals P f tS e
noncomputable def rgOf1 (l : List Item) : Option (Operand × Nat × Code × Code × List Item) := match l with
  | .code c :: k => (match c with
    | .rangeFunc g ⟨[p1]⟩ assign body => some (g, p1, assign, body, k)
    | _ => none)
  | _ => none
noncomputable def rg1K (P : Program) (C : Caller) (VB : VBs) (N : Nat) (g : Operand) (p1 : Nat) (assign body : Code) (k : List Item) (ρ : T Value) (ds : List Deferred) (M : Mem) : SR := match okv P.globals.size (slot ρ) g with
  | some (.func (.func fB) ⟨[]⟩ ⟨[.pointer (some ⟨bx, 0, none⟩)]⟩) => (match VB fB with
    | some (tS, e) => (match P.underlying tS with
      | some (.slice el) => (match eLoad P (fun _ => .pointer (some ⟨bx, 0, none⟩)) M tS (.tmp 0) with
        | some (.slice q L c, _) => bif Nat.ble L 4611686018427387904 && Nat.blt p1 N then (match vlRun P C N tS e p1 assign body (.slice q L c) ρ L 0 M with
          | some M' => .go k ρ ds M'
          | none => .bad) else .bad
        | _ => .bad)
      | _ => .bad)
    | none => .bad)
  | _ => .bad
noncomputable def frOf (l : List Item) : Option (Nat × Array Oper × List Item) := match l with
  | .code c :: k => (match c with
    | .region id ops true => some (id, ops, k)
    | _ => none)
  | _ => none
def drK (rs : List Tmp) (ops : Array Oper) (k : List Item) (x : OpsR) : SR := match x with
  | .norm ρ ds M => .go k ρ ds M
  | .pan ch ρ ds M => bif offB rs ops then .fin (.panic ch) ρ ds M else .bad
  | .bad => .bad
noncomputable def frK (P : Program) (X : Exts) (C : Caller) (N : Nat) (rs : List Tmp) (ops : Array Oper) (k : List Item) (hs : List Nat) (tl : Tl) (ρ : T Value) (ds : List Deferred) (M : Mem) : SR := match cutG ops tl with
  | some (gx, q, nh, post) => bif dstsOk N ops && linGOk ops gx hs q nh post then drK rs ops k (drawGR P X C ops hs gx q nh post ρ ds M) else .bad
  | none => (match cutX ops tl with
    | some (pre, e, post) => bif dstsOk N ops && linXo P ops hs pre e post then drK rs ops k (drawX P X C ops hs pre e post ρ ds M) else .bad
    | none => .bad)
noncomputable def step5 (P : Program) (X : Exts) (C : Caller) (VB : VBs) (N : Nat) (tab tab2 : Tab) (rs : List Tmp) (todo : List Item) (ρ : T Value) (ds : List Deferred) (M : Mem) : SR := match rgOf1 todo with
  | some (g, p1, assign, body, k) => rg1K P C VB N g p1 assign body k ρ ds M
  | none => (match frOf todo with
    | some (id, ops, k) => (match tab2 id with
      | some (hs, tl) => frK P X C N rs ops k hs tl ρ ds M
      | none => step1 P X C N tab rs todo ρ ds M)
    | none => step1 P X C N tab rs todo ρ ds M)
theorem drK_holds {P : Program} {N : Nat} {rs : List Tmp} {ops : Array Oper} {k : List Item} {x : OpsR} {R : ADone → Env → List Deferred → AW → Prop} (h : (drK rs ops k x).holds P N rs R) :
    x.holdsX ops (fun ρ' ds' aw' => AGo P N k ρ' ds' aw' R) (fun ch ρ' ds' aw' => R (.panic ch) ρ' ds' aw') := by
  unfold drK at h
  cases x with
  | norm ρ ds M => exact h
  | pan ch ρ ds M =>
    cases ho : offB rs ops with
    | false => simp only [ho, cond_false] at h; exact h.elim
    | true =>
      simp only [ho, cond_true] at h
      intro ρ' hoff
      refine h ρ' fun t ht => hoff t fun j hj => ?_
      simp only [offB, List.all_eq_true] at ho
      have hd := ho t ht
      unfold dstOf at hj
      cases hx : ops[j]? with
      | none => simp [hx] at hj
      | some o =>
        simp only [hx, Option.bind_some] at hj
        have hm : o ∈ ops.toList := by
          have := Array.mem_of_getElem? hx
          simpa using this
        have := hd o hm
        rw [hj] at this
        simp at this
  | bad => exact h.elim
theorem step5_spec {P : Program} {X : Exts} {C : Caller} {VB : VBs} {N : Nat} {tab tab2 : Tab} {rs : List Tmp} {R : ADone → Env → List Deferred → AW → Prop} (hX : ExtOk P X) (hVB : VBok P VB) (hC : CS P C) (hm : P.follows .mixedOrders = true) {todo : List Item} {ρ : T Value} {ds : List Deferred} {M : Mem}
    (h : (step5 P X C VB N tab tab2 rs todo ρ ds M).holds P N rs R) : AGo P N todo (slot ρ) ds M.abs R := by
  unfold step5 at h
  split at h
  · rename_i g p1 assign body k hrg
    unfold rgOf1 at hrg
    split at hrg
    · split at hrg
      · simp only [Option.some.injEq, Prod.mk.injEq] at hrg
        obtain ⟨rfl, rfl, rfl, rfl, rfl⟩ := hrg
        unfold rg1K at h
        split at h
        · rename_i fB bx hg
          split at h
          · rename_i tS e hb
            split at h
            · rename_i el hT
              split at h
              · rename_i q L c M1 hl
                cases hcnd : Nat.ble L 4611686018427387904 && Nat.blt _ N with
                | false => rw [hcnd] at h; exact h.elim
                | true =>
                  rw [hcnd] at h
                  simp only [Bool.and_eq_true, Nat.ble_eq, Nat.blt_eq] at hcnd
                  obtain ⟨c1, c2⟩ := hcnd
                  simp only [cond_true] at h
                  split at h
                  · rename_i M' hbk
                    exact ago_vals hC (hVB _ _ _ hb) hg hT hl c1 c2 hbk h
                  · exact h.elim
              · exact h.elim
            · exact h.elim
          · exact h.elim
        · exact h.elim
      · cases hrg
    · cases hrg
  · split at h
    · rename_i id ops k hfr
      split at h
      · rename_i hs' tl ht
        unfold frOf at hfr
        split at hfr
        · split at hfr
          · simp only [Option.some.injEq, Prod.mk.injEq] at hfr
            obtain ⟨rfl, rfl, rfl⟩ := hfr
            unfold frK at h
            split at h
            · rename_i gx q nh post hcut
              cases hb : dstsOk N _ && linGOk _ gx hs' q nh post with
              | false => rw [hb] at h; exact h.elim
              | true =>
                rw [hb] at h
                simp only [Bool.and_eq_true] at hb
                exact drawG_spec hX hC hm hb.1 hb.2 (drK_holds h)
            · split at h
              · rename_i pre e post hcut
                cases hb : dstsOk N _ && linXo P _ hs' pre e post with
                | false => rw [hb] at h; exact h.elim
                | true =>
                  rw [hb] at h
                  simp only [Bool.and_eq_true] at hb
                  exact drawX_spec hX hC hm hb.1 hb.2 (drK_holds h)
              · exact h.elim
          · cases hfr
        · cases hfr
      · exact step1_spec hX hC hm h
    · exact step1_spec hX hC hm h
noncomputable def callOneW (P : Program) (X : Exts) (VB : VBs) (tab tab2 : Nat → Tab) (n : Nat) (C : Caller) : Caller := fun f args M => match P.funcs[f]? with
  | none => none
  | some fn => (match fn.body with
    | none => none
    | some c => bif Nat.ble args.length fn.ntmps then (match iter (step5 P X C VB fn.ntmps (tab f) (tab2 f) (rSlots fn)) n [.code c] (T.ofL args 0 .leaf) [] M with
      | .fin d ρ ds M => leave P fn (callD P X C tab n) ρ ds d M
      | _ => none) else none)
theorem callOneW_spec {P : Program} {X : Exts} {VB : VBs} {C : Caller} {tab tab2 : Nat → Tab} {n : Nat} (hX : ExtOk P X) (hVB : VBok P VB) (hC : CS P C) (hm : P.follows .mixedOrders = true) : CS P (callOneW P X VB tab tab2 n C) := by
  intro f args M e M' h
  unfold callOneW at h
  split at h
  · cases h
  rename_i fn hf
  split at h
  · cases h
  rename_i c hb
  rw [cond_some] at h
  obtain ⟨hl, h⟩ := h
  have hl := Nat.le_of_ble_eq_true hl
  split at h
  · rename_i d ρ ds M2 hx
    refine acalls_of_ago_d hf hb rfl hl ?_
    rw [← slot_init]
    refine iter_spec (f := step5 P X C VB fn.ntmps (tab f) (tab2 f) (rSlots fn)) (rs := rSlots fn) (fun todo ρ ds M h => step5_spec hX hVB hC hm h) n _ _ _ _ ?_
    rw [hx]
    intro ρ' hr
    exact leave_spec (callD_spec hX hC hm) hr h
  · cases h
noncomputable def callW (P : Program) (X : Exts) (VB : VBs) (tab tab2 : Nat → Tab) (n : Nat) (d : Nat) : Caller := Nat.rec (motive := fun _ => Caller) (fun _ _ _ => none) (fun _ ih => callOneW P X VB tab tab2 n ih) d
theorem callW_spec {P : Program} {X : Exts} {VB : VBs} {tab tab2 : Nat → Tab} {n : Nat} (hX : ExtOk P X) (hVB : VBok P VB) (hm : P.follows .mixedOrders = true) : ∀ d, CS P (callW P X VB tab tab2 n d)
  | 0 => fun _ _ _ _ _ h => by cases h
  | d + 1 => callOneW_spec hX hVB (callW_spec hX hVB hm d) hm
end
def retW : Option (AEnd × Mem) → Bool
  | some (.returned (.bool b), _) => b
  | _ => false
theorem retW_some {x : Option (AEnd × Mem)} (h : retW x = true) : ∃ M', x = some (.returned (.bool true), M') := by
  unfold retW at h
  split at h
  · subst h; exact ⟨_, rfl⟩
  · cases h
@[reducible] def symW : SymE := ⟨fun _ => .int .i64 0, fun _ => .inl ⟨_, _, rfl⟩⟩
@[reducible] def ftW : FT := ⟨fun _ _ _ => none, fun _ _ => none, fun _ _ => none, fun _ => none⟩
theorem ftWok : @FTok _ ftW := @FTok.mk _ ftW (fun _ _ _ _ h => by cases h) (fun _ _ _ h => by cases h) (fun _ _ _ h => by cases h) (fun _ _ h => by cases h)
end Go.Ri
