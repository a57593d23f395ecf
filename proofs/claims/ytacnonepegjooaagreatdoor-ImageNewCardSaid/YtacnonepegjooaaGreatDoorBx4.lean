/- The staged interpreter, with ranges over slices.Backward whose body may return. -/
import Derived.Test.YtacnonepegjooaaGreatDoorBx3
set_option linter.unusedSimpArgs false
set_option linter.unusedVariables false
set_option linter.unusedSectionVars false
namespace Go.Ri
open Go Go.Am Go.RowKit
variable [SymE]
section
variable [FT] [FTok]
noncomputable def rgKX (P : Program) (X : Exts) (C : Caller) (RB : RBs) (N : Nat) (tab2 : Tab) (g : Operand) (p1 p2 : Nat) (assign body : Code) (k : List Item) (ρ : T Value) (ds : List Deferred) (M : Mem) : SR := match okv P.globals.size (slot ρ) g with
  | some (.func (.func fB) ⟨[]⟩ ⟨[.pointer (some ⟨bx, 0, none⟩)]⟩) => (match RB fB with
    | some (tS, e) => (match P.underlying tS with
      | some (.slice el) => (match eLoad P (fun _ => .pointer (some ⟨bx, 0, none⟩)) M tS (.tmp 0) with
        | some (.slice q L c, _) => bif Nat.ble L 4611686018427387904 && (Nat.blt p1 N && Nat.blt p2 N) then (match bkRunX P X C N tab2 tS e p1 p2 assign body bx ρ L L M with
          | some (j, M') => .go (jmpK j k) ρ ds M'
          | none => .bad) else .bad
        | _ => .bad)
      | _ => .bad)
    | none => .bad)
  | _ => .bad
noncomputable def stepQ (P : Program) (X : Exts) (RB : RBs) (N : Nat) (tab tab2 : Tab) (rs : List Tmp) (todo : List Item) : StK := match rgOf todo with
  | some (g, p1, p2, assign, body, k) => ⟨fun C ρ ds M => rgKX P X C RB N tab2 g p1 p2 assign body k ρ ds M⟩
  | none => stepP P X RB N tab tab2 rs todo
noncomputable def step9 (P : Program) (X : Exts) (C : Caller) (RB : RBs) (N : Nat) (tab tab2 : Tab) (rs : List Tmp) (todo : List Item) (ρ : T Value) (ds : List Deferred) (M : Mem) : SR := Cx.rec (motive := fun _ => SR) (fun f => f C ρ ds M) (stepQ P X RB N tab tab2 rs todo)
theorem step9_spec {P : Program} {X : Exts} {C : Caller} {RB : RBs} {N : Nat} {tab tab2 : Tab} {rs : List Tmp} {R : ADone → Env → List Deferred → AW → Prop} (hX : ExtOk P X) (hRB : RBok P RB) (hC : CS P C) (hm : P.follows .mixedOrders = true) {todo : List Item} (hok : okL tab N todo) {ρ : T Value} {ds : List Deferred} {M : Mem} :
    ((step9 P X C RB N tab tab2 rs todo ρ ds M).holds P N rs R → AGo P N todo (slot ρ) ds M.abs R) ∧ (step9 P X C RB N tab tab2 rs todo ρ ds M).okS tab N := by
  show (((stepQ P X RB N tab tab2 rs todo).f C ρ ds M).holds P N rs R → _) ∧ ((stepQ P X RB N tab tab2 rs todo).f C ρ ds M).okS tab N
  unfold stepQ
  split
  · rename_i g p1 p2 assign body k hrg
    unfold rgOf at hrg
    have hs : AGo P N (silT 60 todo) (slot ρ) ds M.abs R → AGo P N todo (slot ρ) ds M.abs R := silT_spec 60 todo
    have hok := silT_ok 60 hok
    generalize silT 60 todo = l at hs hok hrg
    split at hrg
    · split at hrg
      · simp only [Option.some.injEq, Prod.mk.injEq] at hrg
        obtain ⟨rfl, rfl, rfl, rfl, rfl, rfl⟩ := hrg
        show ((rgKX P X C RB N tab2 _ _ _ _ _ _ ρ ds M).holds P N rs R → _) ∧ (rgKX P X C RB N tab2 _ _ _ _ _ _ ρ ds M).okS tab N
        unfold rgKX
        split
        · rename_i fB bx hg
          split
          · rename_i tS e hb
            split
            · rename_i el hT
              split
              · rename_i q L c M1 hl
                cases hcnd : Nat.ble L 4611686018427387904 && (Nat.blt _ N && Nat.blt _ N) with
                | false => exact ⟨fun h => h.elim, True.intro⟩
                | true =>
                  simp only [Bool.and_eq_true, Nat.ble_eq, Nat.blt_eq] at hcnd
                  obtain ⟨c1, c2, c3⟩ := hcnd
                  simp only [cond_true]
                  split
                  · rename_i j M' hbk
                    refine ⟨fun h => hs (ago_backX hX hC hm (hRB _ _ _ hb) hg hT hl c1 c2 c3 hbk h), ?_⟩
                    cases j with
                    | false => exact hok.tail
                    | true => exact okL.cons rfl hok.tail
                  · exact ⟨fun h => h.elim, True.intro⟩
              · exact ⟨fun h => h.elim, True.intro⟩
            · exact ⟨fun h => h.elim, True.intro⟩
          · exact ⟨fun h => h.elim, True.intro⟩
        · exact ⟨fun h => h.elim, True.intro⟩
      · cases hrg
    · cases hrg
  · exact step8_spec (tab2 := tab2) (rs := rs) hX hRB hC hm hok
noncomputable def callOneQ (P : Program) (X : Exts) (RB : RBs) (tab tab2 : Nat → Tab) (n : Nat) (C : Caller) : Caller := fun f args M => match P.funcs[f]? with
  | none => none
  | some fn => (match fn.body with
    | none => none
    | some c => bif Nat.ble args.length fn.ntmps then endS P fn (callD P X C tab n) (iter (step9 P X C RB fn.ntmps (tab f) (tab2 f) (rSlots fn)) n [.code c] (T.ofL args 0 .leaf) [] M) else none)
theorem callOneQ_spec {P : Program} {X : Exts} {RB : RBs} {C : Caller} {tab tab2 : Nat → Tab} {n : Nat} (hP : okP tab P.funcs.toList 0 = true) (hX : ExtOk P X) (hRB : RBok P RB) (hC : CS P C) (hm : P.follows .mixedOrders = true) : CS P (callOneQ P X RB tab tab2 n C) := by
  intro f args M e M' h
  unfold callOneQ endS at h
  split at h
  · cases h
  rename_i fn hf
  split at h
  · cases h
  rename_i c hb
  rw [cond_some] at h
  obtain ⟨hl, h⟩ := h
  have hl := Nat.le_of_ble_eq_true hl
  split at h
  · rename_i d ρ ds M2 hx
    refine acalls_of_ago_d hf hb rfl hl ?_
    rw [← slot_init]
    have hc : okC (tab f) fn.ntmps c = true := by
      have := okP_spec hP (j := f) (fn := fn) (by simpa using hf) hb
      rwa [Nat.zero_add] at this
    refine (iterS_spec (tab := tab f) (N := fn.ntmps) (rs := rSlots fn) (f := step9 P X C RB fn.ntmps (tab f) (tab2 f) (rSlots fn)) (fun todo ρ ds M h => step9_spec hX hRB hC hm h) n _ _ _ _ (fun x hx => ?_)).1 ?_
    · obtain rfl := List.mem_singleton.1 hx
      exact hc
    rw [hx]
    intro ρ' hr
    exact leave_spec (callD_spec hX hC hm) hr h
  · cases h
end
noncomputable def callQ [FT] (P : Program) (X : Exts) (RB : RBs) (O : Caller → Caller) (tab tab2 : Nat → Tab) (n : Nat) (d : Nat) : Caller := Nat.rec (motive := fun _ => Caller) (fun _ _ _ => none) (fun _ ih => callOneQ P X RB tab tab2 n (O ih)) d
theorem callQ_spec [FT] [FTok] {P : Program} {X : Exts} {RB : RBs} {O : Caller → Caller} (hO : ∀ C, CS P C → CS P (O C)) {tab tab2 : Nat → Tab} {n : Nat} (hP : okP tab P.funcs.toList 0 = true) (hX : ExtOk P X) (hRB : RBok P RB) (hm : P.follows .mixedOrders = true) : ∀ d, CS P (callQ P X RB O tab tab2 n d)
  | 0 => fun _ _ _ _ _ h => by cases h
  | d + 1 => callOneQ_spec hP hX hRB (hO _ (callQ_spec hO hP hX hRB hm d)) hm
theorem run_lawQ {P : Program} {X : Exts} {RB : RBs} {O : Caller → Caller} [FT] [FTok] (hO : ∀ C, CS P C → CS P (O C)) {tab tab2 : Nat → Tab} {n d : Nat} (hP : okP tab P.funcs.toList 0 = true) (hX : ExtOk P X) (hRB : RBok P RB) (hm : P.follows .mixedOrders = true)
    {f : FuncId} {sargs vs : List Value} {M0 : Mem} {W : World} {s : Inj} (hr : Rel P.globals.size (· < W.heap.size) W s M0.abs W) (hv : VRs s sargs vs)
    (hrun : retB (callQ P X RB O tab tab2 n d f sargs M0) = true) : Calls P f vs.toArray W fun e w' => e = .returned (.bool true) ∧ Below W.heap.size W w' := by
  obtain ⟨M', hM⟩ := retB_some hrun
  have h := callQ_spec hO hP hX hRB hm d f sargs _ _ _ hM
  refine (h _ _ _ vs W hr hv).mono ?_
  rintro e w' ⟨s', ae, aw', _, hr', her, rfl, _⟩
  cases her with
  | returned h =>
    cases h
    exact ⟨rfl, hr'.below.below⟩
end Go.Ri
