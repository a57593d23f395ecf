/- The code of a round, run till it is at an end or returns. -/
import Derived.Test.YtacnonepegjooaaGreatDoorBx1
set_option linter.unusedSimpArgs false
set_option linter.unusedVariables false
set_option linter.unusedSectionVars false
namespace Go.Ri
open Go Go.Am Go.RowKit
variable [SymE] [FT] [FTok]
def Reach (P : Program) (N : Nat) (todo : List Item) (ρ : Env) (aw : AW) (K : List Item → Env → AW → Prop) : Prop :=
  ∀ (base : Nat → Prop) (w0 : World) (s : Inj) (a : Act) (w : World) (b : Frame) (cs : List Frame), St P.globals.size base w0 s ρ N [] aw a w →
    ∃ s' a' w' todo' ρ' aw', Steps P (lone (b.atR a todo) cs w) (lone (b.atR a' todo') cs w') ∧ s.le s' ∧ St P.globals.size base w0 s' ρ' N [] aw' a' w' ∧ K todo' ρ' aw'
section
variable {P : Program} {N : Nat} {k todo todo' : List Item} {ρ : Env} {aw : AW} {K : List Item → Env → AW → Prop}
theorem Reach.here (h : K todo ρ aw) : Reach P N todo ρ aw K := fun base w0 s a w b cs hst => ⟨s, a, w, todo, ρ, aw, Steps.refl P _, Inj.le_refl s, hst, h⟩
theorem Reach.head (hs : ∀ (b : Frame) (a : Act) (cs : List Frame) (w : World), step P (lone (b.atR a todo) cs w) = .next (lone (b.atR a todo') cs w)) (h : Reach P N todo' ρ aw K) : Reach P N todo ρ aw K := by
  intro base w0 s a w b cs hst
  obtain ⟨s', a', w', t', ρ', aw', h1, h2⟩ := h base w0 s a w b cs hst
  exact ⟨s', a', w', t', ρ', aw', .head (hs b a cs w) h1, h2⟩
theorem Reach.cond {c : Operand} {x y : Code} {q : Bool} (hc : okOpd P.globals.size c = true) (hv : ρ.eval c = .bool q) (h : Reach P N (.code (if q then x else y) :: k) ρ aw K) : Reach P N (.code (.cond c x y) :: k) ρ aw K := by
  intro base w0 s a w b cs hst
  have hv' := hst.eval hc
  rw [hv] at hv'
  obtain ⟨s', a', w', t', ρ', aw', h1, h2⟩ := h base w0 s a w b cs hst
  exact ⟨s', a', w', t', ρ', aw', .head (stepR_cond hv'.bool_inv) h1, h2⟩
theorem Reach.ops {ops : Array Oper} {l : List Nat} (hnd : ∀ (i : Nat) (o : Oper), ops[i]? = some o → ∀ c, o.op ≠ .defer c)
    {base : Nat → Prop} {w0 : World} {s : Inj} {a : Act} {w : World} (h : wpOps P ops (QQ P.globals.size base w0 s N (fun ρ' ds' aw' => ds' = [] ∧ Reach P N k ρ' aw' K) (fun _ _ _ _ => False)) l a w) (b : Frame) (cs : List Frame) :
    ∃ s' a' w' todo' ρ' aw', Steps P (lone (b.atR a (.inRegion ops l :: k)) cs w) (lone (b.atR a' todo') cs w') ∧ s.le s' ∧ St P.globals.size base w0 s' ρ' N [] aw' a' w' ∧ K todo' ρ' aw' := by
  obtain ⟨a1, w1, hq, hs⟩ := wpOps_R (fun a w h => h.elim) (fun ch a w h => by obtain ⟨_, _, _, _, _, _, _, _, hf⟩ := h; exact hf.elim) hnd l a w h b k cs
  obtain ⟨s1, ρ1, ds1, aw1, h1, h2, rfl, h3⟩ := hq
  obtain ⟨s', a', w', t', ρ', aw', k1, k2, k3⟩ := h3 base w0 s1 a1 w1 b cs h2
  exact ⟨s', a', w', t', ρ', aw', hs.trans k1, Inj.le_trans h1 k2, k3⟩
theorem Reach.region {ops : Array Oper} {id : Nat} (hnd : ∀ (i : Nat) (o : Oper), ops[i]? = some o → ∀ c, o.op ≠ .defer c)
    (h : AOps P N ops (List.range ops.size) ρ [] aw (fun ρ' ds' aw' => ds' = [] ∧ Reach P N k ρ' aw' K) (fun _ _ _ _ => False)) : Reach P N (.code (.region id ops false) :: k) ρ aw K := by
  intro base w0 s a w b cs hst
  obtain ⟨s', a', w', t', ρ', aw', k1, k2⟩ := Reach.ops hnd (h base w0 s a w hst) b cs
  exact ⟨s', a', w', t', ρ', aw', .head stepR_region k1, k2⟩
theorem Reach.draw {ops : Array Oper} {id : Nat} (hm : P.follows .mixedOrders = true) (hnd : ∀ (i : Nat) (o : Oper), ops[i]? = some o → ∀ c, o.op ≠ .defer c)
    (h : ∀ (base : Nat → Prop) (w0 : World) (s : Inj) (a : Act) (w : World), St P.globals.size base w0 s ρ N [] aw a w →
      wpAny P .any ops (QQ P.globals.size base w0 s N (fun ρ' ds' aw' => ds' = [] ∧ Reach P N k ρ' aw' K) (fun _ _ _ _ => False)) ops.size (Array.replicate ops.size false) a { w with drawn := w.drawn + 1 }) : Reach P N (.code (.region id ops true) :: k) ρ aw K := by
  intro base w0 s a w b cs hst
  have hs1 := stepR_region_draw (P := P) (b := b) (a := a) (k := k) (cs := cs) (w := w) (ops := ops) (id := id)
  have hw : wpOps P ops (QQ P.globals.size base w0 s N (fun ρ' ds' aw' => ds' = [] ∧ Reach P N k ρ' aw' K) (fun _ _ _ _ => False)) (Region.schedule (P.follows .mixedOrders) ops (w.tape w.drawn (.order b.fn id))) a { w with drawn := w.drawn + 1 } := by
    simp only [Region.schedule, hm, Bool.true_or, if_true]
    exact wpAny_sound ops.size _ _ a _ (h base w0 s a w hst)
  obtain ⟨s', a', w', t', ρ', aw', k1, k2⟩ := Reach.ops hnd hw b cs
  exact ⟨s', a', w', t', ρ', aw', .head hs1 k1, k2⟩
end
noncomputable def noDef (ops : Array Oper) : Bool := ops.toList.all fun o => match o.op with
  | .defer _ => false
  | _ => true
theorem noDef_spec {ops : Array Oper} (h : noDef ops = true) (i : Nat) (o : Oper) (ho : ops[i]? = some o) (c : Call) : o.op ≠ .defer c := by
  intro hc
  have hm : o ∈ ops.toList := by
    have := Array.mem_of_getElem? ho
    simpa using this
  have := List.all_eq_true.1 h o hm
  rw [hc] at this
  cases this
noncomputable def jOps (x : OpsR) (k : T Value → Mem → Option (Bool × Mem)) : Option (Bool × Mem) := match x with
  | .norm ρ [] M => k ρ M
  | _ => none
noncomputable def jRun (P : Program) (X : Exts) (C : Caller) (N : Nat) (tab2 : Tab) (n : Nat) : List Item → T Value → Mem → Option (Bool × Mem) := Nat.rec (motive := fun _ => List Item → T Value → Mem → Option (Bool × Mem)) (fun _ _ _ => none)
  (fun _ ih l ρ M => match l with
    | [] => some (false, M)
    | .inBlock _ :: k => ih k ρ M
    | .code c :: k => (match c with
      | .skip => ih k ρ M
      | .ret => some (true, M)
      | .seq x y => ih (.code x :: .code y :: k) ρ M
      | .block id c => ih (.code c :: .inBlock id :: k) ρ M
      | .cond c x y => (match okv P.globals.size (slot ρ) c with
        | some (.bool true) => ih (.code x :: k) ρ M
        | some (.bool false) => ih (.code y :: k) ρ M
        | _ => none)
      | .region id ops draw => bif dstsOk N ops && noDef ops then (match draw with
        | false => jOps (ops1 P X C ops ops.toList ρ [] M) (ih k)
        | true => (match tab2 id with
          | some (hs, tl) => (match planOf tl with
            | some (two, pl, post) => bif linPOk two ops hs pl post then jOps (drawP two P X C ops hs pl post ρ [] M) (ih k) else none
            | none => none)
          | none => none)) else none
      | _ => none)
    | _ => none) n
def KJ (q : Bool) (M : Mem) (todo : List Item) (_ : Env) (aw : AW) : Prop := aw = M.abs ∧ (match q with
  | true => ∃ k, todo = .code .ret :: k
  | false => todo = [])
section
variable {P : Program} {X : Exts} {C : Caller} {N : Nat} {tab2 : Tab}
theorem jOps_spec {x : OpsR} {k : T Value → Mem → Option (Bool × Mem)} {q : Bool} {M' : Mem} (h : jOps x k = some (q, M')) : ∃ ρ M, x = .norm ρ [] M ∧ k ρ M = some (q, M') := by
  unfold jOps at h
  split at h
  · rename_i ρ M; exact ⟨ρ, M, rfl, h⟩
  · cases h
theorem jRun_spec (hX : ExtOk P X) (hC : CS P C) (hm : P.follows .mixedOrders = true) : ∀ (n : Nat) (l : List Item) (ρ : T Value) (M : Mem) (q : Bool) (M' : Mem), jRun P X C N tab2 n l ρ M = some (q, M') → Reach P N l (slot ρ) M.abs (KJ q M')
  | 0, _, _, _, _, _, h => by cases h
  | n + 1, l, ρ, M, q, M', h0 => by
    have ih := jRun_spec hX hC hm n
    have h : (match (generalizing := false) l with
    | [] => some (false, M)
    | .inBlock _ :: k => jRun P X C N tab2 n k ρ M
    | .code c :: k => (match c with
      | .skip => jRun P X C N tab2 n k ρ M
      | .ret => some (true, M)
      | .seq x y => jRun P X C N tab2 n (.code x :: .code y :: k) ρ M
      | .block id c => jRun P X C N tab2 n (.code c :: .inBlock id :: k) ρ M
      | .cond c x y => (match okv P.globals.size (slot ρ) c with
        | some (.bool true) => jRun P X C N tab2 n (.code x :: k) ρ M
        | some (.bool false) => jRun P X C N tab2 n (.code y :: k) ρ M
        | _ => none)
      | .region id ops draw => bif dstsOk N ops && noDef ops then (match draw with
        | false => jOps (ops1 P X C ops ops.toList ρ [] M) (jRun P X C N tab2 n k)
        | true => (match tab2 id with
          | some (hs, tl) => (match planOf tl with
            | some (two, pl, post) => bif linPOk two ops hs pl post then jOps (drawP two P X C ops hs pl post ρ [] M) (jRun P X C N tab2 n k) else none
            | none => none)
          | none => none)) else none
      | _ => none)
    | _ => none) = some (q, M') := h0
    clear h0
    split at h
    · simp only [Option.some.injEq, Prod.mk.injEq] at h
      obtain ⟨rfl, rfl⟩ := h
      exact Reach.here ⟨rfl, rfl⟩
    · exact Reach.head (fun _ _ _ _ => stepR_inBlock) (ih _ _ _ _ _ h)
    · split at h
      · exact Reach.head (fun _ _ _ _ => stepR_skip) (ih _ _ _ _ _ h)
      · simp only [Option.some.injEq, Prod.mk.injEq] at h
        obtain ⟨rfl, rfl⟩ := h
        exact Reach.here ⟨rfl, _, rfl⟩
      · exact Reach.head (fun _ _ _ _ => stepR_seq) (ih _ _ _ _ _ h)
      · exact Reach.head (fun _ _ _ _ => stepR_block) (ih _ _ _ _ _ h)
      · split at h
        · rename_i hc
          obtain ⟨g1, g2⟩ := okv_spec hc
          exact Reach.cond g1 g2 (ih _ _ _ _ _ h)
        · rename_i hc
          obtain ⟨g1, g2⟩ := okv_spec hc
          exact Reach.cond g1 g2 (ih _ _ _ _ _ h)
        · cases h
      · rw [cond_some] at h
        obtain ⟨hb, h⟩ := h
        simp only [Bool.and_eq_true] at hb
        split at h
        · obtain ⟨ρ1, M1, hx, h⟩ := jOps_spec h
          refine Reach.region (noDef_spec hb.2) (region_spec hX hC hb.1 ?_)
          rw [hx]
          exact ⟨rfl, ih _ _ _ _ _ h⟩
        · split at h; rotate_left; · cases h
          rename_i hs tl ht
          split at h; rotate_left; · cases h
          rename_i two pl post hp
          rw [cond_some] at h
          obtain ⟨hl, h⟩ := h
          obtain ⟨ρ1, M1, hx, h⟩ := jOps_spec h
          unfold drawP at hx
          split at hx
          · cases hx
          rename_i ρ2 hh
          cases hbb : again P _ (slot ρ2) M hs with
          | false => rw [hbb] at hx; cases hx
          | true =>
          rw [hbb] at hx
          simp only [cond_true] at hx
          refine Reach.draw hm (noDef_spec hb.2) (any_drawP hb.1 hl (heads_spec hh) (again_spec hbb) (planR_spec hX hC ?_))
          rw [hx]
          exact ⟨rfl, ih _ _ _ _ _ h⟩
      · cases h
    · cases h
end
end Go.Ri
