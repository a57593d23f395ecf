/- Regions of open order, once more: those that only read stand at any place ahead of who awaits them; the others in the order of the text. -/
import Derived.Test.YtfoceofohlpafaaDoorAm16
set_option linter.unusedSimpArgs false
set_option linter.unusedVariables false
set_option linter.unusedSectionVars false
namespace Go.Am
open Go Go.RowKit
variable [SymE]

/-- p: those that read, at first; tl: those that do more, in their order, each with those that read and may come behind it still, and those that may come from then on -/
abbrev Tl := List (Nat × List Nat × List Nat)
def pendOk (ops : Array Oper) : List Nat → Tl → Bool
  | _, [] => true
  | p, (t, q, nh) :: r => (p.all fun i => q.contains i || anc ops ops.size t i) && (nh.all fun i => anc ops ops.size i t) && pendOk ops (q ++ nh) r
def chainOk (ops : Array Oper) : List Nat → Bool
  | [] => true
  | [_] => true
  | a :: b :: r => anc ops ops.size b a && chainOk ops (b :: r)
def quietOf (p : List Nat) (tl : Tl) : List Nat := p ++ tl.flatMap fun e => e.2.1 ++ e.2.2
def linOk (ops : Array Oper) (p : List Nat) (tl : Tl) : Bool :=
  ((quietOf p tl).all fun i => decide (i < ops.size) && (dstOf ops i).isSome && ((quietOf p tl).all fun j => i == j || dstOf ops i != dstOf ops j) && tl.all fun e => dstOf ops i != dstOf ops e.1 && i != e.1) &&
  (tl.all fun e => decide (e.1 < ops.size)) &&
  ((List.range ops.size).all fun j => p.contains j || tl.any fun e => j == e.1 || e.2.2.contains j) &&
  ((List.range ops.size).all fun j => ((ops[j]?).map fun (o : Oper) => o.after.all fun e => !Region.binds .any e || decide (e.on < j)).getD true) &&
  ((List.range ops.size).all fun j => ((ops[j]?).map fun (o : Oper) => (looks ops o).all fun t => (quietOf p tl).all fun i => dstOf ops i != some t || anc ops ops.size j i).getD true) &&
  chainOk ops (tl.map (·.1)) && pendOk ops p tl && (decide (tl.map (·.1)).Nodup)

section
variable {P : Program} {N : Nat} {ops : Array Oper} {hs : List Nat} {k : List Item} {ρ : Env} {ds : List Deferred} {aw : AW}
  {Kn : Env → List Deferred → AW → Prop} {Kp : List PanicEntry → Env → List Deferred → AW → Prop} {val : Nat → Value}

/-- these read, at any time, what their slots say -/
def FFl (P : Program) (ops : Array Oper) (l : List Nat) (ρ : Env) (aw : AW) : Prop := ∀ i ∈ l, ∀ o, ops[i]? = some o → ∀ d, o.dst = some d → HeadOp P ops o ρ aw (ρ d)
/-- alike beside the slots of these -/
def OffL (ops : Array Oper) (l : List Nat) (ρ ρ' : Env) : Prop := ∀ t, (∀ i ∈ l, dstOf ops i ≠ some t) → ρ' t = ρ t
/-- alike beside what the region writes -/
def Off (ops : Array Oper) (ρ ρ' : Env) : Prop := ∀ t, (∀ j : Nat, dstOf ops j ≠ some t) → ρ' t = ρ t
def Agr (ops : Array Oper) (o : Oper) (ρ ρ' : Env) : Prop := ∀ t ∈ looks ops o, ρ' t = ρ t
/-- one of the tail, and what follows -/
inductive TStep (P : Program) (ops : Array Oper) (o : Oper) (ρ : Env) (ds : List Deferred) (aw : AW) (next : Env → List Deferred → AW → Prop) (Kp : List PanicEntry → Env → List Deferred → AW → Prop) : Prop
  | val {v : Value} {aw' : AW} (h : ∀ ρ', Agr ops o ρ ρ' → wants ops o ρ' true ∧ OpV P o ρ' aw v aw') (hn : next (ρ.put o.dst v) ds aw')
  | skip (h : ∀ ρ', Agr ops o ρ ρ' → wants ops o ρ' false) (hn : next (ρ.put o.dst undef) ds aw)
  | call {fid : FuncId} {args : List Value} (h : ∀ ρ', Agr ops o ρ ρ' → wants ops o ρ' true ∧ OpC P o ρ' fid args) (hn : ACalls P fid args aw fun
      | .returned v, aw' => next (ρ.put o.dst v) ds aw'
      | .panicked ch, aw' => ∀ ρ', Off ops ρ ρ' → Kp ch ρ' ds aw')
  | panic {v : Value} (h : ∀ ρ', Agr ops o ρ ρ' → wants ops o ρ' true ∧ OpP P o ρ' aw v) (hn : ∀ ρ', Off ops ρ ρ' → Kp [⟨v, false, false⟩] ρ' ds aw)
def LinT (P : Program) (ops : Array Oper) (Kn : Env → List Deferred → AW → Prop) (Kp : List PanicEntry → Env → List Deferred → AW → Prop) : Tl → Env → List Deferred → AW → Prop
  | [], ρ, ds, aw => Kn ρ ds aw
  | (t, q, nh) :: r, ρ, ds, aw => ∃ o, ops[t]? = some o ∧ TStep P ops o ρ ds aw (fun ρ' ds' aw' => ∃ ρ2, OffL ops nh ρ' ρ2 ∧ FFl P ops (q ++ nh) ρ2 aw' ∧ LinT P ops Kn Kp r ρ2 ds' aw') Kp

theorem put_at (ρ : Env) (x : Tmp) (v : Value) (t : Tmp) : (ρ.put (some x) v) t = if t = x then v else ρ t := by rw [Env.put_some]
theorem getD_true_false {l : Array Bool} {i : Nat} (hi : i < l.size) : l.getD i true = l.getD i false := by simp [Array.getD, hi]

theorem lin_tail (hN : dstsOk N ops = true) (hs : List Nat) (hst : ∀ i ∈ hs, i < ops.size ∧ ∃ d, dstOf ops i = some d ∧ ∀ j ∈ hs, dstOf ops j = some d → j = i)
    (hord : ((List.range ops.size).all fun j => ((ops[j]?).map fun (o : Oper) => o.after.all fun e => !Region.binds .any e || decide (e.on < j)).getD true) = true)
    (hlk : ((List.range ops.size).all fun j => ((ops[j]?).map fun (o : Oper) => (looks ops o).all fun t => hs.all fun i => dstOf ops i != some t || anc ops ops.size j i).getD true) = true) :
    ∀ (n : Nat) (l : Array Bool) (ρ' ρ : Env) (ds : List Deferred) (aw : AW) (p : List Nat) (tl : Tl), l.size = ops.size → left l = n →
      (∀ j, j < ops.size → l.getD j true = false → j ∈ p ∨ ∃ e ∈ tl, j = e.1 ∨ j ∈ e.2.2) →
      (∀ e ∈ tl, e.1 < ops.size ∧ l.getD e.1 true = false ∧ (∀ i ∈ hs, dstOf ops i ≠ dstOf ops e.1 ∧ i ≠ e.1) ∧ (∀ j ∈ e.2.1, j ∈ hs) ∧ ∀ j ∈ e.2.2, j ∈ hs ∧ l.getD j true = false) →
      (∀ j, listedOf l j = true → j < ops.size → ∀ o, ops[j]? = some o → ∀ e ∈ o.after, Region.binds .any e = true → l.getD e.on false = true) →
      (∀ i ∈ p, i ∈ hs) →
      (∀ t, (∀ i ∈ p, l.getD i true = false → dstOf ops i ≠ some t) → ρ' t = ρ t) →
      chainOk ops (tl.map (·.1)) = true → pendOk ops p tl = true → (tl.map (·.1)).Nodup → FFl P ops p ρ aw → LinT P ops Kn Kp tl ρ ds aw → TailAny P N ops Kn Kp n l ρ' ds aw := by
  simp only [List.all_eq_true, List.mem_range, decide_eq_true_eq] at hord hlk
  intro n
  induction n with
  | zero =>
    intro l ρ' ρ ds aw p tl hl hf hin htl hcl hp hag hch hpo hnd hff hlin
    have hall : ∀ j, j < ops.size → l.getD j true = true := by
      intro j hj
      unfold left at hf
      rw [List.countP_eq_zero] at hf
      have := hf l[j] (by simp)
      simp only [Array.getD, hl, hj, dif_pos]
      simpa using this
    cases tl with
    | cons q r =>
      obtain ⟨h1, h3, _⟩ := htl q (by simp)
      rw [hall _ h1] at h3; cases h3
    | nil =>
      have e : ρ' = ρ := funext fun t => hag t fun i hi hx => by rw [hall i (hst i (hp i hi)).1] at hx; cases hx
      refine ⟨?_, by rw [e]; exact hlin⟩
      cases hr : Region.ready .any ops l with
      | nil => rfl
      | cons i r =>
        obtain ⟨g1, g2, _⟩ := ready_spec (ops := ops) (l := l) (i := i) (by rw [hr]; simp)
        rw [hall i g1] at g2; cases g2
  | succ n ih =>
    intro l ρ' ρ ds aw p tl hl hf hin htl hcl hp hag hch hpo hnd hff hlin
    have hpre : ∀ j o, ops[j]? = some o → ∀ e ∈ o.after, Region.binds .any e = true → e.on < j := by
      intro j o ho e he hb
      have hlt : j < ops.size := (Array.getElem?_eq_some_iff.1 ho).1
      have := hord j hlt
      rw [ho] at this
      simp only [Option.map_some, Option.getD_some, Array.all_eq_true] at this
      obtain ⟨q, hq, rfl⟩ := Array.getElem_of_mem he
      have := this q hq
      simp only [hb, Bool.not_true, Bool.false_or, decide_eq_true_eq] at this
      exact this
    -- what is ready awaits none that is still to come
    have hanc : ∀ i, i ∈ Region.ready .any ops l → ∀ j, anc ops ops.size i j = true → l.getD j false = true := by
      intro i hi j hj
      obtain ⟨_, _, g3⟩ := ready_spec hi
      exact closed_anc hcl ops.size g3 hj
    have hnext : ∀ i, i ∈ Region.ready .any ops l → (∀ j, listedOf (l.setIfInBounds i true) j = true → j < ops.size → ∀ o, ops[j]? = some o → ∀ e ∈ o.after, Region.binds .any e = true → (l.setIfInBounds i true).getD e.on false = true) := by
      intro i hi j hj hjs o ho e he hb
      obtain ⟨g1, g2, g3⟩ := ready_spec hi
      have up : ∀ x, l.getD x false = true → (l.setIfInBounds i true).getD x false = true := by
        intro x hx
        rw [getD_set]; split
        · rfl
        · exact hx
      unfold listedOf at hj
      rw [getD_set] at hj
      split at hj
      · rename_i hij
        obtain ⟨rfl, _⟩ := hij
        exact up _ (g3 o ho e he hb)
      · exact up _ (hcl j hj hjs o ho e he hb)
    have hlook : ∀ i o, i ∈ Region.ready .any ops l → ops[i]? = some o → Agr ops o ρ ρ' := by
      intro i o hi ho t ht
      obtain ⟨g1, _, _⟩ := ready_spec hi
      refine hag t fun j hj hx hdj => ?_
      have := hlk i g1
      rw [ho] at this
      simp only [Option.map_some, Option.getD_some, List.all_eq_true, Bool.or_eq_true, bne_iff_ne, ne_eq] at this
      rcases this t ht j (hp j hj) with h | h
      · exact h hdj
      · have := hanc i hi j h
        rw [getD_true_false (by rw [hl]; exact (hst j (hp j hj)).1), this] at hx; cases hx
    have hsz : ∀ i, (l.setIfInBounds i true).size = ops.size := fun i => by simp [hl]
    have hleft : ∀ i, i ∈ Region.ready .any ops l → left (l.setIfInBounds i true) = n := by
      intro i hi
      obtain ⟨_, g2, _⟩ := ready_spec hi
      have := left_set l i g2
      omega
    have hkeep : ∀ i j, (l.setIfInBounds i true).getD j true = false → i ≠ j ∧ l.getD j true = false := by
      intro i j hx
      rw [getD_set] at hx
      split at hx
      · cases hx
      · rename_i hne
        refine ⟨fun h => ?_, hx⟩
        subst h
        have : ¬ i < l.size := fun h => hne ⟨rfl, h⟩
        simp [Array.getD, this] at hx
    have hput : ∀ i j, i ≠ j → l.getD j true = false → (l.setIfInBounds i true).getD j true = false := by
      intro i j hne hx
      rw [getD_set, if_neg (fun h => hne h.1)]; exact hx
    refine ⟨fun hr => ?_, fun i hi => ?_⟩
    · -- not all is done: the first that isn't is ready
      exfalso
      have hex : ∃ j, j < ops.size ∧ l.getD j true = false := by
        apply Classical.byContradiction
        intro h
        have : left l = 0 := by
          unfold left
          rw [List.countP_eq_zero]
          intro b hb
          obtain ⟨j, hj, rfl⟩ := List.getElem_of_mem hb
          have hj' : j < l.size := by simpa using hj
          cases hx : l.getD j true with
          | true => simp only [Array.getD, hj', dif_pos] at hx; simp; simpa using hx
          | false => exact absurd ⟨j, by omega, hx⟩ h
        omega
      have hfirst : ∃ j, j < ops.size ∧ l.getD j true = false ∧ ∀ i, i < j → l.getD i true = true := by
        obtain ⟨j, hj, hx⟩ := hex
        induction j using Nat.strongRecOn with
        | _ j ihj =>
          by_cases h : ∀ i, i < j → l.getD i true = true
          · exact ⟨j, hj, hx, h⟩
          · have : ∃ i, i < j ∧ l.getD i true = false := by
              apply Classical.byContradiction
              intro h'
              apply h
              intro i hi
              cases hy : l.getD i true with
              | true => rfl
              | false => exact absurd ⟨i, hi, hy⟩ h'
            obtain ⟨i, hi, hy⟩ := this
            exact ihj i hi (by omega) hy
      obtain ⟨j, hj, hx, hmin⟩ := hfirst
      have hready : j ∈ Region.ready .any ops l := ready_of hj hx (fun o ho e he hb => by
        have hlt := hpre j o ho e he hb
        have := hmin _ hlt
        rw [getD_true_false (by omega)] at this
        exact this)
      rw [hr] at hready; simp at hready
    · obtain ⟨g1, g2, g3⟩ := ready_spec hi
      have ho : ops[i]? = some ops[i] := Array.getElem?_eq_getElem g1
      have hag' := hlook i _ hi ho
      have hoff : Off ops ρ ρ' := fun t ht => hag t fun j hj hx => ht j
      by_cases him : i ∈ p
      · -- one that reads
        obtain ⟨_, d, hdi, hdu⟩ := hst i (hp i him)
        have hod : (ops[i]).dst = some d := by simpa [dstOf, ho] using hdi
        have go : TailAny P N ops Kn Kp n (l.setIfInBounds i true) (ρ'.put (ops[i]).dst (ρ d)) ds aw := by
          refine ih _ _ ρ ds aw p tl (hsz i) (hleft i hi) ?_ ?_ (hnext i hi) hp ?_ hch hpo hnd hff hlin
          · intro j hj hx
            exact hin j hj (hkeep i j hx).2
          · intro e he
            obtain ⟨a1, a2, a3, a4, a5⟩ := htl e he
            refine ⟨a1, hput i _ (a3 i (hp i him)).2 a2, a3, a4, fun j hj => ⟨(a5 j hj).1, ?_⟩⟩
            refine hput i j ?_ (a5 j hj).2
            rintro rfl
            -- one of those to come awaits its stage
            have : anc ops ops.size i e.1 = true := by
              have key : ∀ (tl : Tl) (p : List Nat), pendOk ops p tl = true → e ∈ tl → anc ops ops.size i e.1 = true := by
                intro tl
                induction tl with
                | nil => intro p _ h; simp at h
                | cons x r ihr =>
                  intro p hpo he
                  obtain ⟨t, q, nh⟩ := x
                  simp only [pendOk, Bool.and_eq_true, List.all_eq_true] at hpo
                  rcases List.mem_cons.1 he with rfl | he
                  · exact hpo.1.2 i hj
                  · exact ihr _ hpo.2 he
              exact key tl p hpo he
            have := hanc i hi _ this
            rw [getD_true_false (by omega), this] at a2; cases a2
          · intro t ht
            rw [hod, put_at]
            by_cases htd : t = d
            · rw [if_pos htd, htd]
            · rw [if_neg htd]
              refine hag t fun j hj hx => ?_
              by_cases hji : j = i
              · subst hji
                rw [hdi]
                exact fun h => htd (by injection h with h; exact h.symm)
              · exact ht j hj (hput i j (fun h => hji h.symm) hx)
        have hho := hff i him _ ho d hod ρ' hag'
        rcases hho with ⟨w1, w2⟩ | ⟨w1, w2⟩ | ⟨w1, fid, args, w2, w3⟩
        · exact aops_val hN ho w1 w2 (aops_nil go)
        · rw [w2] at go
          exact aops_skip hN ho w1 (aops_nil go)
        · refine aops_call hN ho w1 w2 (ACalls.mono w3 fun e aw' he => ?_)
          obtain ⟨rfl, rfl⟩ := he
          exact aops_nil go
      · -- one that does more: the first
        obtain ⟨e, het, hie⟩ := (hin i g1 g2).resolve_left him
        cases tl with
        | nil => simp at het
        | cons x r =>
          obtain ⟨t, q, nh⟩ := x
          have hit' : i = t := by
            -- all further on await the first
            have key : ∀ (m : Tl) (a : Nat) (pp : List Nat), chainOk ops (a :: m.map (·.1)) = true → pendOk ops pp m = true → (∀ y ∈ a :: m.map (·.1), y < ops.size ∧ l.getD y true = false) → ∀ y ∈ m, i ≠ y.1 ∧ i ∉ y.2.2 := by
              intro m
              induction m with
              | nil => intro a _ _ _ _ y hy; simp at hy
              | cons b m ihm =>
                intro a pp hc hpd hall y hy
                obtain ⟨b1, b2, b3⟩ := b
                simp only [List.map_cons, chainOk, Bool.and_eq_true] at hc
                simp only [pendOk, Bool.and_eq_true, List.all_eq_true] at hpd
                rcases List.mem_cons.1 hy with rfl | hy
                · refine ⟨fun h => ?_, fun h => ?_⟩
                  · subst h
                    have h1 := hanc i hi a hc.1
                    obtain ⟨h2, h3⟩ := hall a (by simp)
                    rw [getD_true_false (by omega), h1] at h3; cases h3
                  · have h1 := hanc i hi b1 (hpd.1.2 i h)
                    obtain ⟨h2, h3⟩ := hall b1 (by simp)
                    rw [getD_true_false (by omega), h1] at h3; cases h3
                · exact ihm b1 _ hc.2 hpd.2 (fun z hz => hall z (by simp at hz ⊢; exact .inr hz)) y hy
            have hpo' := hpo
            simp only [pendOk, Bool.and_eq_true, List.all_eq_true] at hpo'
            have hall : ∀ y ∈ t :: List.map (fun x : Nat × List Nat × List Nat => x.1) r, y < ops.size ∧ l.getD y true = false := fun y hy => by
              have hy' : y ∈ List.map (fun x : Nat × List Nat × List Nat => x.1) ((t, q, nh) :: r) := hy
              obtain ⟨z, hz, rfl⟩ := List.mem_map.1 hy'
              exact ⟨(htl z hz).1, (htl z hz).2.1⟩
            rcases List.mem_cons.1 het with rfl | het
            · rcases hie with h | h
              · exact h
              · exfalso
                have h1 := hanc i hi t (hpo'.1.2 i h)
                obtain ⟨h2, h3, _⟩ := htl (t, q, nh) (by simp)
                rw [getD_true_false (by omega), h1] at h3; cases h3
            · exfalso
              obtain ⟨k1, k2⟩ := key r t _ hch hpo'.2 hall e het
              rcases hie with h | h
              · exact k1 h
              · exact k2 h
          subst hit'
          obtain ⟨o, ho', hst'⟩ := hlin
          have hoo : o = ops[i] := by rw [ho] at ho'; exact (Option.some.inj ho').symm
          subst hoo
          simp only [pendOk, Bool.and_eq_true, List.all_eq_true, Bool.or_eq_true] at hpo
          obtain ⟨⟨hp1, hp2⟩, hp3⟩ := hpo
          obtain ⟨a1, a2, a3, a4, a5⟩ := htl (i, q, nh) (by simp)
          have hnd' : i ∉ List.map (fun x : Nat × List Nat × List Nat => x.1) r ∧ (List.map (fun x : Nat × List Nat × List Nat => x.1) r).Nodup := by simpa using hnd
          have go : ∀ (v : Value) (ds' : List Deferred) (aw' : AW), (∃ ρ2, OffL ops nh (ρ.put (ops[i]).dst v) ρ2 ∧ FFl P ops (q ++ nh) ρ2 aw' ∧ LinT P ops Kn Kp r ρ2 ds' aw') → TailAny P N ops Kn Kp n (l.setIfInBounds i true) (ρ'.put (ops[i]).dst v) ds' aw' := by
            rintro v ds' aw' ⟨ρ2, ho2, hff', hlin'⟩
            refine ih _ _ ρ2 ds' aw' (q ++ nh) r (hsz i) (hleft i hi) ?_ ?_ (hnext i hi) ?_ ?_ ?_ hp3 hnd'.2 hff' hlin'
            · intro j hj hx
              obtain ⟨hne, hx⟩ := hkeep i j hx
              rcases hin j hj hx with h | ⟨e, he, hje⟩
              · rcases hp1 j h with h | h
                · exact .inl (List.mem_append.2 (.inl (by simpa using h)))
                · have := hanc i hi j h
                  rw [getD_true_false (by omega), this] at hx; cases hx
              · rcases List.mem_cons.1 he with rfl | he
                · rcases hje with h | h
                  · exact absurd h.symm hne
                  · exact .inl (List.mem_append.2 (.inr h))
                · exact .inr ⟨e, he, hje⟩
            · intro y hy
              obtain ⟨b1, b2, b3, b4, b5⟩ := htl y (by simp [hy])
              have hne : i ≠ y.1 := fun h => hnd'.1 (by rw [h]; exact List.mem_map.2 ⟨y, hy, rfl⟩)
              exact ⟨b1, hput i _ hne b2, b3, b4, fun j hj => ⟨(b5 j hj).1, hput i j (fun h => (a3 j (b5 j hj).1).2 h.symm) (b5 j hj).2⟩⟩
            · intro j hj
              rcases List.mem_append.1 hj with h | h
              · exact a4 j h
              · exact (a5 j h).1
            · intro t ht
              have e2 : ρ2 t = (ρ.put (ops[i]).dst v) t := ho2 t fun j hj => ht j (List.mem_append.2 (.inr hj)) (hput i j (fun h => (a3 j (a5 j hj).1).2 h.symm) (a5 j hj).2)
              rw [e2]
              have base : ρ' t = ρ t ∨ (ops[i]).dst = some t := by
                by_cases hd : (ops[i]).dst = some t
                · exact .inr hd
                · refine .inl (hag t fun j hj hx => ?_)
                  rcases hp1 j hj with h | h
                  · exact ht j (List.mem_append.2 (.inl (by simpa using h))) (hput i j (fun h2 => him (h2 ▸ hj)) hx)
                  · have := hanc i hi j h
                    rw [getD_true_false (by rw [hl]; exact (hst j (hp j hj)).1), this] at hx; cases hx
              cases hdst : (ops[i]).dst with
              | none =>
                rcases base with h | h
                · exact h
                · rw [hdst] at h; cases h
              | some x =>
                rw [put_at, put_at]
                by_cases htx : t = x
                · rw [if_pos htx, if_pos htx]
                · rw [if_neg htx, if_neg htx]
                  rcases base with h | h
                  · exact h
                  · rw [hdst] at h; injection h with h; exact absurd h.symm htx
            · cases r with
              | nil => rfl
              | cons y r =>
                simp only [List.map_cons, chainOk, Bool.and_eq_true] at hch ⊢
                exact hch.2
          cases hst' with
          | val h hn => exact aops_val hN ho (h ρ' hag').1 (h ρ' hag').2 (aops_nil (go _ _ _ hn))
          | skip h hn => exact aops_skip hN ho (h ρ' hag') (aops_nil (go _ _ _ hn))
          | call h hn =>
            refine aops_call hN ho (h ρ' hag').1 (h ρ' hag').2 (ACalls.mono hn fun e aw' he => ?_)
            cases e with
            | returned v => exact aops_nil (go _ _ _ he)
            | panicked ch => exact he ρ' hoff
          | panic h hn => exact aops_panic hN ho (h ρ' hag').1 (h ρ' hag').2 (hn ρ' hoff)

theorem ago_drawF {c : Code} {id : Nat} {p : List Nat} {tl : Tl} {R : ADone → Env → List Deferred → AW → Prop} {ρ1 : Env} (e : c = .region id ops true) (hm : P.follows .mixedOrders = true) (hN : dstsOk N ops = true) (hok : linOk ops p tl = true)
    (hoff : OffL ops p ρ ρ1) (hop : FFl P ops p ρ1 aw)
    (hk : LinT P ops (fun ρ' ds' aw' => AGo P N k ρ' ds' aw' R) (fun ch ρ' ds' aw' => R (.panic ch) ρ' ds' aw') tl ρ1 ds aw) :
    AGo P N (.code c :: k) ρ ds aw R := by
  subst e
  simp only [linOk, Bool.and_eq_true] at hok
  obtain ⟨⟨⟨⟨⟨⟨⟨h1, h2⟩, h3⟩, h4⟩, h5⟩, h6⟩, h7⟩, h8⟩ := hok
  have hdr : drawOk ops [] [] = true := by
    simp only [drawOk, List.all_nil, Bool.true_and, Bool.and_true, List.contains_nil, Bool.or_true, Bool.and_eq_true]
    refine ⟨h4, ?_⟩
    simp
  refine ago_draw (hs := []) (fl := []) (val := fun _ => undef) hm hN hdr List.nodup_nil (fun i o hi => by simp at hi) ⟨?_, trivial⟩
  simp only [List.all_eq_true, Bool.and_eq_true, bne_iff_ne, ne_eq, Bool.or_eq_true, beq_iff_eq, decide_eq_true_eq, List.mem_range, List.any_eq_true] at h1 h2 h3 h8
  have hmask : ∀ j, (maskOf ops.size [] []).getD j true = if j < ops.size then false else true := by
    intro j
    simp only [maskOf, Array.getD_eq_getD_getElem?]
    by_cases hj : j < ops.size
    · simp [hj]
    · simp [hj]
  have hq : ∀ e ∈ tl, ∀ j, j ∈ e.2.1 ∨ j ∈ e.2.2 → j ∈ quietOf p tl := fun e he j hj => List.mem_append.2 (.inr (List.mem_flatMap.2 ⟨e, he, List.mem_append.2 hj⟩))
  refine lin_tail hN (quietOf p tl) ?_ h4 h5 _ _ _ ρ1 ds aw p tl (by simp [maskOf]) rfl ?_ ?_ ?_ (fun i hi => List.mem_append.2 (.inl hi)) ?_ h6 h7 h8 hop hk
  · intro i hi
    obtain ⟨⟨⟨b1, b2⟩, b3⟩, b4⟩ := h1 i hi
    obtain ⟨d, hd⟩ := Option.isSome_iff_exists.1 b2
    exact ⟨b1, d, hd, fun j hj hjd => ((b3 j hj).resolve_right (fun h => h (hd.trans hjd.symm))).symm⟩
  · intro j hj _
    rcases h3 j hj with h | ⟨e, he, h⟩
    · exact .inl (by simpa using h)
    · refine .inr ⟨e, he, ?_⟩
      rcases h with h | h
      · exact .inl h
      · exact .inr (by simpa using h)
  · intro e he
    refine ⟨h2 e he, by rw [hmask, if_pos (h2 e he)], fun i hi => ?_, fun j hj => hq e he j (.inl hj), fun j hj => ⟨hq e he j (.inr hj), ?_⟩⟩
    · obtain ⟨_, b4⟩ := h1 i hi
      exact b4 e he
    · obtain ⟨⟨⟨b1, _⟩, _⟩, _⟩ := h1 j (hq e he j (.inr hj))
      rw [hmask, if_pos b1]
  · intro j hj hjs
    unfold listedOf at hj
    rw [hmask, if_pos hjs] at hj; cases hj
  · intro t ht
    show putAll ops (fun _ => undef) ρ (([] : List Nat).filter fun i => !([] : List Nat).contains i) t = _
    refine (hoff t fun j hj => ht j hj ?_).symm
    obtain ⟨⟨⟨b1, _⟩, _⟩, _⟩ := h1 j (List.mem_append.2 (.inl hj))
    rw [hmask, if_pos b1]
end
end Go.Am
