/- The library of this claim, part 4: values alike, an abstract memory, operations, regions, an interpreter that the kernel runs. -/
import Derived.Test.YthfjjcfceilahaaGreatDoorL3
set_option linter.unusedSimpArgs false
set_option linter.unusedVariables false
set_option linter.unusedSectionVars false
namespace Go.Am
open Go Go.RowKit
variable [SymE]
def LinX (P : Program) (ops : Array Oper) (d : Tmp) (cells : List Value) (elem esz : Nat) (mk : Nat → Value) (qx nhx : List Nat) (post : Tl) (awS : AW) (Kn : Env → List Deferred → AW → Prop) (Kp : List PanicEntry → Env → List Deferred → AW → Prop) : Tl → Env → List Deferred → AW → Prop
  | [], ρ, ds, aw => (∀ b B, b < aw.next → aw.m b = some B → B.rw = false → ∃ B0, awS.m b = some B0) ∧ ∃ ρ2, OffL ops nhx (ρ.put (some d) (mk aw.next)) ρ2 ∧ FFl P ops (qx ++ nhx) ρ2 (aw.alloc cells elem esz) ∧ LinT P ops Kn Kp post ρ2 ds (aw.alloc cells elem esz)
  | (t, q, nh) :: r, ρ, ds, aw => ∃ o, ops[t]? = some o ∧ TStep P ops o ρ ds aw (fun ρ' ds' aw' => ∃ ρ2, OffL ops nh ρ' ρ2 ∧ FFl P ops (q ++ nh) ρ2 aw' ∧ LinX P ops d cells elem esz mk qx nhx post awS Kn Kp r ρ2 ds' aw') (fun _ _ _ _ => False)
section
variable {P : Program} {N : Nat} {ops : Array Oper} {hs : List Nat} {Kn : Env → List Deferred → AW → Prop} {Kp : List PanicEntry → Env → List Deferred → AW → Prop}
  {base : Nat → Prop} {w0 : World} {s0 : Inj} {d : Tmp} {cells : List Value} {elem esz x : Nat} {mk : Nat → Value} {qx nhx : List Nat} {post : Tl} {wS : World} {awS : AW} {ox : Oper}
theorem lin_pre (hN : dstsOk N ops = true) (hst : ∀ i ∈ hs, i < ops.size ∧ ∃ d, dstOf ops i = some d ∧ ∀ j ∈ hs, dstOf ops j = some d → j = i)
    (hord : ((List.range ops.size).all fun j => ((ops[j]?).map fun (o : Oper) => o.after.all fun e => !Region.binds .any e || decide (e.on < j)).getD true) = true)
    (hlk : ((List.range ops.size).all fun j => ((ops[j]?).map fun (o : Oper) => (looks ops o).all fun t => hs.all fun i => dstOf ops i != some t || anc ops ops.size j i).getD true) = true)
    (hxo : ops[x]? = some ox) (hxg : ox.guard = none) (hxd : ox.dst = some d) (hdN : d < N) (hm : Makes P ox cells elem esz mk) (hS : Rel P.globals.size base w0 s0 awS wS) :
    ∀ (n : Nat) (l : Array Bool) (m : Bool) (ρ' ρ : Env) (ds : List Deferred) (aw : AW) (p : List Nat) (pre : Tl) (a : Act) (w : World), l.size = ops.size → left l = n → l.getD x true = m →
      (∀ j, j < ops.size → l.getD j true = false → j ∈ p ∨ ∃ e ∈ pre ++ (x, qx, nhx) :: post, j = e.1 ∨ j ∈ e.2.2) →
      (∀ e ∈ pre ++ (x, qx, nhx) :: post, e.1 < ops.size ∧ (e.1 ≠ x → l.getD e.1 true = false) ∧ (∀ i ∈ hs, dstOf ops i ≠ dstOf ops e.1 ∧ i ≠ e.1) ∧ (∀ j ∈ e.2.1, j ∈ hs) ∧ ∀ j ∈ e.2.2, j ∈ hs ∧ l.getD j true = false) →
      (∀ j, listedOf l j = true → j < ops.size → ∀ o, ops[j]? = some o → ∀ e ∈ o.after, Region.binds .any e = true → l.getD e.on false = true) →
      (∀ i ∈ p, i ∈ hs) →
      (∀ t, (∀ i ∈ p, l.getD i true = false → dstOf ops i ≠ some t) → ρ' t = ρ t) →
      chainOk ops (pre.map (·.1) ++ post.map (·.1)) = true → chainOk ops (x :: post.map (·.1)) = true → (∀ i ∈ nhx, ∀ e ∈ pre, anc ops ops.size i e.1 = true) →
      pendOk ops p (pre ++ (x, qx, nhx) :: post) = true → ((pre ++ (x, qx, nhx) :: post).map (·.1)).Nodup →
      (∀ i, (i ∈ p ∨ ∃ e ∈ pre, i = e.1 ∨ i ∈ e.2.1 ∨ i ∈ e.2.2) → ∀ o, ops[i]? = some o → Early ops d o) →
      FFl P ops p ρ aw → LinX P ops d cells elem esz mk qx nhx post awS Kn Kp pre ρ ds aw → SX P.globals.size base w0 s0 N d cells elem mk wS.heap.size m ρ' ds aw a w →
      wpAny P .any ops (QQ P.globals.size base w0 s0 N Kn Kp) n l a w := by
  have hord0 := hord
  have hlk0 := hlk
  simp only [List.all_eq_true, List.mem_range, decide_eq_true_eq] at hord hlk
  have hxs : x < ops.size := (Array.getElem?_eq_some_iff.1 hxo).1
  have hdx : dstOf ops x = some d := by simp [dstOf, hxo, hxd]
  intro n
  have met : ∀ (n : Nat) (l : Array Bool) (m : Bool) (ρ' ρ : Env) (ds : List Deferred) (aw : AW) (p : List Nat) (a : Act) (w : World), l.size = ops.size → left l = n → l.getD x true = m →
      (∀ j, j < ops.size → l.getD j true = false → j ∈ p ∨ ∃ e ∈ (x, qx, nhx) :: post, j = e.1 ∨ j ∈ e.2.2) →
      (∀ e ∈ (x, qx, nhx) :: post, e.1 < ops.size ∧ (e.1 ≠ x → l.getD e.1 true = false) ∧ (∀ i ∈ hs, dstOf ops i ≠ dstOf ops e.1 ∧ i ≠ e.1) ∧ (∀ j ∈ e.2.1, j ∈ hs) ∧ ∀ j ∈ e.2.2, j ∈ hs ∧ l.getD j true = false) →
      (∀ j, listedOf l j = true → j < ops.size → ∀ o, ops[j]? = some o → ∀ e ∈ o.after, Region.binds .any e = true → l.getD e.on false = true) →
      (∀ i ∈ p, i ∈ hs) →
      (∀ t, (∀ i ∈ p, l.getD i true = false → dstOf ops i ≠ some t) → ρ' t = ρ t) →
      chainOk ops (x :: post.map (·.1)) = true →
      pendOk ops p ((x, qx, nhx) :: post) = true → (((x, qx, nhx) :: post).map (·.1)).Nodup →
      FFl P ops p ρ aw → LinX P ops d cells elem esz mk qx nhx post awS Kn Kp [] ρ ds aw → SX P.globals.size base w0 s0 N d cells elem mk wS.heap.size m ρ' ds aw a w →
      wpAny P .any ops (QQ P.globals.size base w0 s0 N Kn Kp) n l a w := by
    intro n l m ρ' ρ ds aw p a w hl hf hmode hin htl hcl hp hag hch hpo hnd hff hlin hsx
    obtain ⟨hro, ρ2, ho2, hff2, hlin2⟩ := hlin
    cases m with
    | false =>
      obtain ⟨s1, k1, k2, _⟩ := hsx
      have ht : TailAny P N ops Kn Kp n l ρ' ds aw := by
        refine lin_tail hN hs hst hord0 hlk0 n l ρ' ρ ds aw p ((x, qx, nhx) :: post) hl hf hin ?_ hcl hp hag hch hpo hnd hff ?_
        · intro e he
          obtain ⟨a1, a2, a3, a4, a5⟩ := htl e he
          refine ⟨a1, ?_, a3, a4, a5⟩
          by_cases hex : e.1 = x
          · rw [hex]; exact hmode
          · exact a2 hex
        · refine ⟨ox, hxo, .val (fun ρ'' _ => ⟨?_, hm.opv⟩) ?_⟩
          · unfold wants; rw [hxg]
          · rw [hxd]; exact ⟨ρ2, ho2, hff2, hlin2⟩
      exact wpAny_mono' (fun e a w => QQ.mono k1) (fun a w => QQ.not_outgrown a w) n _ _ _ (tail_sound n l ρ' ds aw ht base w0 s1 a w k2)
    | true =>
      obtain ⟨s1, k1, k2⟩ := hsx.meet hS hm hro
      have hancx : ∀ j, anc ops ops.size x j = true → l.getD j false = true := by
        intro j hj
        exact closed_anc (ops := ops) (l := l) hcl ops.size (j := x) (i := j) (fun o ho e he hb => hcl x (by unfold listedOf; exact hmode) hxs o ho e he hb) hj
      simp only [pendOk, Bool.and_eq_true, List.all_eq_true, Bool.or_eq_true] at hpo
      obtain ⟨⟨hp1, hp2⟩, hp3⟩ := hpo
      obtain ⟨a1, a2, a3, a4, a5⟩ := htl (x, qx, nhx) (by simp)
      have hnd' : x ∉ List.map (fun x : Nat × List Nat × List Nat => x.1) post ∧ (List.map (fun x : Nat × List Nat × List Nat => x.1) post).Nodup := by simpa using hnd
      have hunl : ∀ i, i ∈ p → l.getD i true = false → i ∈ qx := by
        intro i hi hx
        rcases hp1 i hi with h | h
        · simpa using h
        · have := hancx i h
          rw [getD_true_false (by rw [hl]; exact (hst i (hp i hi)).1), this] at hx; cases hx
      have ht : TailAny P N ops Kn Kp n l (ρ'.put (some d) (mk aw.next)) ds (aw.alloc cells elem esz) := by
        refine lin_tail hN hs hst hord0 hlk0 n l (ρ'.put (some d) (mk aw.next)) ρ2 ds _ (qx ++ nhx) post hl hf ?_ ?_ hcl ?_ ?_ ?_ hp3 hnd'.2 hff2 hlin2
        · intro j hj hx
          rcases hin j hj hx with h | ⟨e, he, hje⟩
          · exact .inl (List.mem_append.2 (.inl (hunl j h hx)))
          · rcases List.mem_cons.1 he with rfl | he
            · rcases hje with h | h
              · simp only at h; rw [h, hmode] at hx; cases hx
              · exact .inl (List.mem_append.2 (.inr h))
            · exact .inr ⟨e, he, hje⟩
        · intro e he
          obtain ⟨b1, b2, b3, b4, b5⟩ := htl e (by simp [he])
          exact ⟨b1, b2 (fun h => hnd'.1 (by rw [← h]; exact List.mem_map.2 ⟨e, he, rfl⟩)), b3, b4, b5⟩
        · intro j hj
          rcases List.mem_append.1 hj with h | h
          · exact a4 j h
          · exact (a5 j h).1
        · intro t ht
          have e2 : ρ2 t = (ρ.put (some d) (mk aw.next)) t := ho2 t fun j hj => ht j (List.mem_append.2 (.inr hj)) (a5 j hj).2
          rw [e2, put_at, put_at]
          by_cases htd : t = d
          · rw [if_pos htd, if_pos htd]
          · rw [if_neg htd, if_neg htd]
            exact hag t fun j hj hx => ht j (List.mem_append.2 (.inl (hunl j hj hx))) hx
        · cases post with
          | nil => rfl
          | cons y r =>
            simp only [List.map_cons, chainOk, Bool.and_eq_true] at hch ⊢
            exact hch.2
      exact wpAny_mono' (fun e a w => QQ.mono k1) (fun a w => QQ.not_outgrown a w) n _ _ _ (tail_sound n l _ ds _ ht base w0 s1 a w k2)
  induction n with
  | zero =>
    intro l m ρ' ρ ds aw p pre a w hl hf hmode hin htl hcl hp hag hch hch2 hnx hpo hnd hea hff hlin hsx
    cases pre with
    | nil => exact met 0 l m ρ' ρ ds aw p a w hl hf hmode hin htl hcl hp hag hch2 hpo hnd hff hlin hsx
    | cons e r =>
      exfalso
      have hne : e.1 ≠ x := by
        intro h
        simp only [List.cons_append, List.map_cons, List.nodup_cons] at hnd
        exact hnd.1 (by rw [h]; simp)
      obtain ⟨h1, h3, _⟩ := htl e (by simp)
      have hall : l.getD e.1 true = true := by
        unfold left at hf
        rw [List.countP_eq_zero] at hf
        have := hf l[e.1] (by simp)
        simp only [Array.getD, hl, h1, dif_pos]
        simpa using this
      rw [hall] at h3; cases h3 hne
  | succ n ih =>
    intro l m ρ' ρ ds aw p pre a w hl hf hmode hin htl hcl hp hag hch hch2 hnx hpo hnd hea hff hlin hsx
    cases pre with
    | nil => exact met (n + 1) l m ρ' ρ ds aw p a w hl hf hmode hin htl hcl hp hag hch2 hpo hnd hff hlin hsx
    | cons y r =>
    obtain ⟨t, q, nh⟩ := y
    have hpre : ∀ j o, ops[j]? = some o → ∀ e ∈ o.after, Region.binds .any e = true → e.on < j := by
      intro j o ho e he hb
      have hlt : j < ops.size := (Array.getElem?_eq_some_iff.1 ho).1
      have := hord j hlt
      rw [ho] at this
      simp only [Option.map_some, Option.getD_some, Array.all_eq_true] at this
      obtain ⟨q, hq, rfl⟩ := Array.getElem_of_mem he
      have := this q hq
      simp only [hb, Bool.not_true, Bool.false_or, decide_eq_true_eq] at this
      exact this
    have hanc : ∀ i, i ∈ Region.ready .any ops l → ∀ j, anc ops ops.size i j = true → l.getD j false = true := by
      intro i hi j hj
      obtain ⟨_, _, g3⟩ := ready_spec hi
      exact closed_anc hcl ops.size g3 hj
    have hnext : ∀ i, i ∈ Region.ready .any ops l → (∀ j, listedOf (l.setIfInBounds i true) j = true → j < ops.size → ∀ o, ops[j]? = some o → ∀ e ∈ o.after, Region.binds .any e = true → (l.setIfInBounds i true).getD e.on false = true) := by
      intro i hi j hj hjs o ho e he hb
      obtain ⟨g1, g2, g3⟩ := ready_spec hi
      have up : ∀ x, l.getD x false = true → (l.setIfInBounds i true).getD x false = true := by
        intro x hx
        rw [getD_set]; split
        · rfl
        · exact hx
      unfold listedOf at hj
      rw [getD_set] at hj
      split at hj
      · rename_i hij
        obtain ⟨rfl, _⟩ := hij
        exact up _ (g3 o ho e he hb)
      · exact up _ (hcl j hj hjs o ho e he hb)
    have hlook : ∀ i o, i ∈ Region.ready .any ops l → ops[i]? = some o → Agr ops o ρ ρ' := by
      intro i o hi ho t ht
      obtain ⟨g1, _, _⟩ := ready_spec hi
      refine hag t fun j hj hx hdj => ?_
      have := hlk i g1
      rw [ho] at this
      simp only [Option.map_some, Option.getD_some, List.all_eq_true, Bool.or_eq_true, bne_iff_ne, ne_eq] at this
      rcases this t ht j (hp j hj) with h | h
      · exact h hdj
      · have := hanc i hi j h
        rw [getD_true_false (by rw [hl]; exact (hst j (hp j hj)).1), this] at hx; cases hx
    have hsz : ∀ i, (l.setIfInBounds i true).size = ops.size := fun i => by simp [hl]
    have hleft : ∀ i, i ∈ Region.ready .any ops l → left (l.setIfInBounds i true) = n := by
      intro i hi
      obtain ⟨_, g2, _⟩ := ready_spec hi
      have := left_set l i g2
      omega
    have hkeep : ∀ i j, (l.setIfInBounds i true).getD j true = false → i ≠ j ∧ l.getD j true = false := by
      intro i j hx
      rw [getD_set] at hx
      split at hx
      · cases hx
      · rename_i hne
        refine ⟨fun h => ?_, hx⟩
        subst h
        have : ¬ i < l.size := fun h => hne ⟨rfl, h⟩
        simp [Array.getD, this] at hx
    have hput : ∀ i j, i ≠ j → l.getD j true = false → (l.setIfInBounds i true).getD j true = false := by
      intro i j hne hx
      rw [getD_set, if_neg (fun h => hne h.1)]; exact hx
    have hmx : ∀ i, i ≠ x → (l.setIfInBounds i true).getD x true = m := by
      intro i hne
      rw [getD_set, if_neg (fun h => hne h.1)]; exact hmode
    simp only [List.cons_append, List.map_cons, List.nodup_cons] at hnd
    have htx : t ≠ x := fun h => hnd.1 (by rw [h]; simp)
    obtain ⟨t1, t2, t3, t4, t5⟩ := htl (t, q, nh) (by simp)
    have t2 := t2 htx
    refine ⟨fun hr => ?_, fun i hi => ?_⟩
    · exfalso
      have hfirst : ∃ j, j < ops.size ∧ l.getD j true = false ∧ ∀ i, i < j → l.getD i true = true := by
        have hex : ∃ j, j < ops.size ∧ l.getD j true = false := ⟨t, t1, t2⟩
        obtain ⟨j, hj, hx⟩ := hex
        induction j using Nat.strongRecOn with
        | _ j ihj =>
          by_cases h : ∀ i, i < j → l.getD i true = true
          · exact ⟨j, hj, hx, h⟩
          · have : ∃ i, i < j ∧ l.getD i true = false := by
              apply Classical.byContradiction
              intro h'
              apply h
              intro i hi
              cases hy : l.getD i true with
              | true => rfl
              | false => exact absurd ⟨i, hi, hy⟩ h'
            obtain ⟨i, hi, hy⟩ := this
            exact ihj i hi (by omega) hy
      obtain ⟨j, hj, hx, hmin⟩ := hfirst
      have hready : j ∈ Region.ready .any ops l := ready_of hj hx (fun o ho e he hb => by
        have hlt := hpre j o ho e he hb
        have := hmin _ hlt
        rw [getD_true_false (by omega)] at this
        exact this)
      rw [hr] at hready; simp at hready
    · obtain ⟨g1, g2, g3⟩ := ready_spec hi
      have ho : ops[i]? = some ops[i] := Array.getElem?_eq_getElem g1
      have hag' := hlook i _ hi ho
      by_cases hix : i = x
      · -- the block is made
        subst hix
        have hmf : m = false := by rw [← hmode]; exact g2
        subst hmf
        have hox : ops[i]? = some ox := hxo
        refine hsx.make hxo hxg hxd hdN hm fun a' w' hsx' => ?_
        refine ih _ true ρ' ρ ds aw p ((t, q, nh) :: r) a' w' (hsz i) (hleft i hi) (by rw [getD_set, if_pos ⟨rfl, by rw [hl]; exact g1⟩]) ?_ ?_ (hnext i hi) hp ?_ hch hch2 hnx hpo (by simpa using hnd) hea hff hlin hsx'
        · intro j hj hx
          exact hin j hj (hkeep i j hx).2
        · intro e he
          obtain ⟨a1, a2, a3, a4, a5⟩ := htl e he
          refine ⟨a1, fun hne => hput i _ (fun h => hne h.symm) (a2 hne), a3, a4, fun j hj => ⟨(a5 j hj).1, hput i j ?_ (a5 j hj).2⟩⟩
          obtain ⟨_, _, x3, _⟩ := htl (i, qx, nhx) (by simp)
          exact fun h => (x3 j (a5 j hj).1).2 h.symm
        · intro t' ht
          refine hag t' fun j hj hx => ht j hj (hput i j (fun h => ?_) hx)
          obtain ⟨_, _, x3, _⟩ := htl (i, qx, nhx) (by simp)
          exact (x3 j (hp j hj)).2 h.symm
      by_cases him : i ∈ p
      · -- one that reads
        obtain ⟨_, d', hdi, hdu⟩ := hst i (hp i him)
        have hod : (ops[i]).dst = some d' := by simpa [dstOf, ho] using hdi
        have hEa := hea i (.inl him) _ ho
        have go : ∀ a' w', SX P.globals.size base w0 s0 N d cells elem mk wS.heap.size m (ρ'.put (ops[i]).dst (ρ d')) ds aw a' w' → wpAny P .any ops (QQ P.globals.size base w0 s0 N Kn Kp) n (l.setIfInBounds i true) a' w' := by
          intro a' w' hsx'
          refine ih _ m _ ρ ds aw p ((t, q, nh) :: r) a' w' (hsz i) (hleft i hi) (hmx i hix) ?_ ?_ (hnext i hi) hp ?_ hch hch2 hnx hpo (by simpa using hnd) hea hff hlin hsx'
          · intro j hj hx
            exact hin j hj (hkeep i j hx).2
          · intro e he
            obtain ⟨a1, a2, a3, a4, a5⟩ := htl e he
            refine ⟨a1, fun hne => hput i _ (a3 i (hp i him)).2 (a2 hne), a3, a4, fun j hj => ⟨(a5 j hj).1, ?_⟩⟩
            refine hput i j ?_ (a5 j hj).2
            rintro rfl
            have key : ∀ (tl : Tl) (p : List Nat), pendOk ops p tl = true → e ∈ tl → anc ops ops.size i e.1 = true := by
              intro tl
              induction tl with
              | nil => intro p _ h; simp at h
              | cons z r ihr =>
                intro p hpo he
                obtain ⟨t', q', nh'⟩ := z
                simp only [pendOk, Bool.and_eq_true, List.all_eq_true] at hpo
                rcases List.mem_cons.1 he with rfl | he
                · exact hpo.1.2 i hj
                · exact ihr _ hpo.2 he
            by_cases hex : e.1 = x
            · have hmem : e ∈ ((t, q, nh) :: r) ++ (x, qx, nhx) :: post := he
              have hee : e = (x, qx, nhx) := by
                simp only [List.cons_append, List.mem_cons, List.mem_append] at hmem
                rcases hmem with rfl | h | rfl | h
                · exact absurd hex htx
                · exfalso
                  have hn2 := hnd.2
                  simp only [List.map_append, List.map_cons, List.nodup_append] at hn2
                  exact hn2.2.2 e.1 (List.mem_map.2 ⟨e, h, rfl⟩) x (by simp) hex
                · rfl
                · exfalso
                  have hn2 := hnd.2
                  simp only [List.map_append, List.map_cons, List.nodup_append, List.nodup_cons] at hn2
                  exact hn2.2.1.1 (by rw [← hex]; exact List.mem_map.2 ⟨e, h, rfl⟩)
              subst hee
              have h1 := hnx i hj (t, q, nh) (by simp)
              have := hanc i hi _ h1
              rw [getD_true_false (by omega), this] at t2; cases t2
            · have h1 := key _ p hpo he
              have := hanc i hi _ h1
              have h2 := a2 hex
              rw [getD_true_false (by omega), this] at h2; cases h2
          · intro t' ht
            rw [hod, put_at]
            by_cases htd : t' = d'
            · rw [if_pos htd, htd]
            · rw [if_neg htd]
              refine hag t' fun j hj hx => ?_
              by_cases hji : j = i
              · subst hji
                rw [hdi]
                exact fun h => htd (by injection h with h; exact h.symm)
              · exact ht j hj (hput i j (fun h => hji h.symm) hx)
        have hho := hff i him _ ho d' hod
        exact hsx.read hN ho (fun _ => hEa) (fun ρ2 hρ2 => hho ρ2 fun t' ht' => (hρ2 t' ht').trans (hag' t' ht')) go
      · -- one that does more: the first
        obtain ⟨e, het, hie⟩ := (hin i g1 g2).resolve_left him
        have hpo0 := hpo
        simp only [List.cons_append, pendOk, Bool.and_eq_true, List.all_eq_true, Bool.or_eq_true] at hpo
        obtain ⟨⟨hp1, hp2⟩, hp3⟩ := hpo
        have hit' : i = t := by
          simp only [List.cons_append, List.mem_cons, List.mem_append] at het
          have chain : ∀ (m : Tl) (b : Nat), chainOk ops (b :: m.map (·.1)) = true → (∀ y ∈ b :: m.map (·.1), y < ops.size ∧ l.getD y true = false) → ∀ y ∈ m, i ≠ y.1 := by
            intro m
            induction m with
            | nil => intro _ _ _ y hy; simp at hy
            | cons c m ihm =>
              intro b hc hall y hy
              simp only [List.map_cons, chainOk, Bool.and_eq_true] at hc
              rcases List.mem_cons.1 hy with rfl | hy
              · intro h
                have h1 := hanc i hi b (by rw [h]; exact hc.1)
                obtain ⟨h2, h3⟩ := hall b (by simp)
                rw [getD_true_false (by omega), h1] at h3; cases h3
              · exact ihm c.1 hc.2 (fun z hz => hall z (by simp at hz ⊢; exact .inr hz)) y hy
          have reads : ∀ (m : Tl) (pp : List Nat), pendOk ops pp m = true → ∀ y ∈ m, i ∈ y.2.2 → l.getD y.1 false = true := by
            intro m
            induction m with
            | nil => intro _ _ y hy; simp at hy
            | cons c m ihm =>
              intro pp hpd y hy hiy
              obtain ⟨c1, c2, c3⟩ := c
              simp only [pendOk, Bool.and_eq_true, List.all_eq_true] at hpd
              rcases List.mem_cons.1 hy with rfl | hy
              · exact hanc i hi _ (hpd.1.2 i hiy)
              · exact ihm _ hpd.2 y hy hiy
          have hn2 := hnd.2
          simp only [List.map_append, List.map_cons, List.nodup_append, List.nodup_cons] at hn2
          have hrp : ∀ y ∈ r ++ post, y ∈ ((t, q, nh) :: r) ++ (x, qx, nhx) :: post ∧ y.1 ≠ x := by
            intro y hy
            rcases List.mem_append.1 hy with h | h
            · exact ⟨by simp [h], fun hx => hn2.2.2 y.1 (List.mem_map.2 ⟨y, h, rfl⟩) x (by simp) hx⟩
            · exact ⟨by simp [h], fun hx => hn2.2.1.1 (by rw [← hx]; exact List.mem_map.2 ⟨y, h, rfl⟩)⟩
          have hall : ∀ y ∈ t :: (r ++ post).map (·.1), y < ops.size ∧ l.getD y true = false := by
            intro y hy
            rcases List.mem_cons.1 hy with rfl | hy
            · exact ⟨t1, t2⟩
            · obtain ⟨z, hz, rfl⟩ := List.mem_map.1 hy
              obtain ⟨z1, z2⟩ := hrp z hz
              obtain ⟨b1, b2, _⟩ := htl z z1
              exact ⟨b1, b2 z2⟩
          have hch3 : chainOk ops (t :: (r ++ post).map (·.1)) = true := by simpa using hch
          rcases het with rfl | het | rfl | het
          · rcases hie with h | h
            · exact h
            · exfalso
              have := hanc i hi t (hp2 i h)
              rw [getD_true_false (by omega), this] at t2; cases t2
          · exfalso
            rcases hie with h | h
            · exact chain (r ++ post) t hch3 hall e (by simp [het]) h
            · have h1 := reads (r ++ (x, qx, nhx) :: post) _ hp3 e (by simp [het]) h
              obtain ⟨b1, b2⟩ := hall e.1 (List.mem_cons_of_mem _ (List.mem_map.2 ⟨e, by simp [het], rfl⟩))
              rw [getD_true_false (by omega), h1] at b2; cases b2
          · exfalso
            rcases hie with h | h
            · exact hix h
            · have := hanc i hi t (hnx i h (t, q, nh) (by simp))
              rw [getD_true_false (by omega), this] at t2; cases t2
          · exfalso
            rcases hie with h | h
            · exact chain (r ++ post) t hch3 hall e (by simp [het]) h
            · have h1 := reads (r ++ (x, qx, nhx) :: post) _ hp3 e (by simp [het]) h
              obtain ⟨b1, b2⟩ := hall e.1 (List.mem_cons_of_mem _ (List.mem_map.2 ⟨e, by simp [het], rfl⟩))
              rw [getD_true_false (by omega), h1] at b2; cases b2
        subst hit'
        obtain ⟨o, ho', hst'⟩ := hlin
        have hoo : o = ops[i] := by rw [ho] at ho'; exact (Option.some.inj ho').symm
        subst hoo
        have hEa := hea i (.inr ⟨(i, q, nh), by simp, .inl rfl⟩) _ ho
        have go : ∀ (v : Value) (ds' : List Deferred) (aw' : AW) (a' : Act) (w' : World), ds' = ds → (∃ ρ2, OffL ops nh (ρ.put (ops[i]).dst v) ρ2 ∧ FFl P ops (q ++ nh) ρ2 aw' ∧ LinX P ops d cells elem esz mk qx nhx post awS Kn Kp r ρ2 ds' aw') →
            SX P.globals.size base w0 s0 N d cells elem mk wS.heap.size m (ρ'.put (ops[i]).dst v) ds aw' a' w' → wpAny P .any ops (QQ P.globals.size base w0 s0 N Kn Kp) n (l.setIfInBounds i true) a' w' := by
          rintro v ds' aw' a' w' rfl ⟨ρ2, ho2, hff', hlin'⟩ hsx'
          refine ih _ m _ ρ2 _ aw' (q ++ nh) r a' w' (hsz i) (hleft i hi) (hmx i htx) ?_ ?_ (hnext i hi) ?_ ?_ ?_ hch2 (fun j hj e he => hnx j hj e (by simp [he])) hp3 hnd.2 ?_ hff' hlin' hsx'
          · intro j hj hx
            obtain ⟨hne, hx⟩ := hkeep i j hx
            rcases hin j hj hx with h | ⟨e, he, hje⟩
            · rcases hp1 j h with h | h
              · exact .inl (List.mem_append.2 (.inl (by simpa using h)))
              · have := hanc i hi j h
                rw [getD_true_false (by omega), this] at hx; cases hx
            · simp only [List.cons_append, List.mem_cons] at he
              rcases he with rfl | he
              · rcases hje with h | h
                · exact absurd h.symm hne
                · exact .inl (List.mem_append.2 (.inr h))
              · exact .inr ⟨e, he, hje⟩
          · intro y hy
            obtain ⟨b1, b2, b3, b4, b5⟩ := htl y (by simp only [List.cons_append, List.mem_cons]; exact .inr hy)
            have hne : i ≠ y.1 := fun h => hnd.1 (by rw [h]; exact List.mem_map.2 ⟨y, hy, rfl⟩)
            exact ⟨b1, fun hyx => hput i _ hne (b2 hyx), b3, b4, fun j hj => ⟨(b5 j hj).1, hput i j (fun h => (t3 j (b5 j hj).1).2 h.symm) (b5 j hj).2⟩⟩
          · intro j hj
            rcases List.mem_append.1 hj with h | h
            · exact t4 j h
            · exact (t5 j h).1
          · intro t' ht
            have e2 : ρ2 t' = (ρ.put (ops[i]).dst v) t' := ho2 t' fun j hj => ht j (List.mem_append.2 (.inr hj)) (hput i j (fun h => (t3 j (t5 j hj).1).2 h.symm) (t5 j hj).2)
            rw [e2]
            have base' : ρ' t' = ρ t' ∨ (ops[i]).dst = some t' := by
              by_cases hd : (ops[i]).dst = some t'
              · exact .inr hd
              · refine .inl (hag t' fun j hj hx => ?_)
                rcases hp1 j hj with h | h
                · exact ht j (List.mem_append.2 (.inl (by simpa using h))) (hput i j (fun h2 => him (h2 ▸ hj)) hx)
                · have := hanc i hi j h
                  rw [getD_true_false (by rw [hl]; exact (hst j (hp j hj)).1), this] at hx; cases hx
            cases hdst : (ops[i]).dst with
            | none =>
              rcases base' with h | h
              · exact h
              · rw [hdst] at h; cases h
            | some z =>
              rw [put_at, put_at]
              by_cases htx : t' = z
              · rw [if_pos htx, if_pos htx]
              · rw [if_neg htx, if_neg htx]
                rcases base' with h | h
                · exact h
                · rw [hdst] at h; injection h with h; exact absurd h.symm htx
          · cases r with
            | nil =>
              cases post with
              | nil => rfl
              | cons c k =>
                simp only [List.map_cons, List.map_nil, List.nil_append, List.cons_append, chainOk, Bool.and_eq_true] at hch ⊢
                exact hch.2
            | cons c k =>
              simp only [List.map_cons, List.cons_append, chainOk, Bool.and_eq_true] at hch ⊢
              exact hch.2
          · intro j hj
            refine hea j ?_
            rcases hj with h | ⟨e, he, h⟩
            · rcases List.mem_append.1 h with h | h
              · exact .inr ⟨(i, q, nh), by simp, .inr (.inl h)⟩
              · exact .inr ⟨(i, q, nh), by simp, .inr (.inr h)⟩
            · exact .inr ⟨e, by simp [he], h⟩
        have offrefl : Off ops ρ ρ := fun _ _ => rfl
        cases hst' with
        | val h hn => exact hsx.val hN ho (fun _ => hEa) (fun ρ2 hρ2 => h ρ2 fun t' ht' => (hρ2 t' ht').trans (hag' t' ht')) fun a' w' hsx' => go _ _ _ a' w' rfl hn hsx'
        | skip h hn => exact hsx.skip hN ho (fun _ => hEa) (fun ρ2 hρ2 => h ρ2 fun t' ht' => (hρ2 t' ht').trans (hag' t' ht')) fun a' w' hsx' => go _ _ _ a' w' rfl hn hsx'
        | call h hn =>
          refine hsx.call (R := fun v aw' => ∃ ρ2, OffL ops nh (ρ.put (ops[i]).dst v) ρ2 ∧ FFl P ops (q ++ nh) ρ2 aw' ∧ LinX P ops d cells elem esz mk qx nhx post awS Kn Kp r ρ2 ds aw') hN ho (fun _ => hEa) (fun ρ2 hρ2 => h ρ2 fun t' ht' => (hρ2 t' ht').trans (hag' t' ht')) (ACalls.mono hn fun e aw' he => ?_) fun v aw' a' w' hr hsx' => go _ _ _ a' w' rfl hr hsx'
          cases e with
          | returned v => exact he
          | panicked ch => exact (he ρ offrefl).elim
        | panic h hn => exact (hn ρ offrefl).elim
end
def notSel : Op → Bool
  | .select _ _ => false
  | _ => true
def linXOk (ops : Array Oper) (x : Nat) (d : Tmp) (p : List Nat) (pre : Tl) (qx nhx : List Nat) (post : Tl) : Bool :=
  ((quietOf p (pre ++ (x, qx, nhx) :: post)).all fun i => decide (i < ops.size) && (dstOf ops i).isSome && ((quietOf p (pre ++ (x, qx, nhx) :: post)).all fun j => i == j || dstOf ops i != dstOf ops j) && (pre ++ (x, qx, nhx) :: post).all fun e => dstOf ops i != dstOf ops e.1 && i != e.1) &&
  ((pre ++ (x, qx, nhx) :: post).all fun e => decide (e.1 < ops.size)) &&
  ((List.range ops.size).all fun j => p.contains j || (pre ++ (x, qx, nhx) :: post).any fun e => j == e.1 || e.2.2.contains j) &&
  ((List.range ops.size).all fun j => ((ops[j]?).map fun (o : Oper) => o.after.all fun e => !Region.binds .any e || decide (e.on < j)).getD true) &&
  ((List.range ops.size).all fun j => ((ops[j]?).map fun (o : Oper) => (looks ops o).all fun t => (quietOf p (pre ++ (x, qx, nhx) :: post)).all fun i => dstOf ops i != some t || anc ops ops.size j i).getD true) &&
  chainOk ops (pre.map (·.1) ++ post.map (·.1)) && chainOk ops (x :: post.map (·.1)) && (nhx.all fun i => pre.all fun e => anc ops ops.size i e.1) &&
  pendOk ops p (pre ++ (x, qx, nhx) :: post) && (decide ((pre ++ (x, qx, nhx) :: post).map (·.1)).Nodup) &&
  ((p ++ pre.flatMap fun e => e.1 :: (e.2.1 ++ e.2.2)).all fun i => ((ops[i]?).map fun (o : Oper) => !(looks ops o).contains d && o.dst != some d && notSel o.op).getD true)
section
variable {P : Program} {N : Nat} {ops : Array Oper} {k : List Item} {ρ : Env} {ds : List Deferred} {aw : AW} {d : Tmp} {cells : List Value} {elem esz x : Nat} {mk : Nat → Value} {p qx nhx : List Nat} {pre post : Tl} {ox : Oper}
theorem ago_drawX {id : Nat} {R : ADone → Env → List Deferred → AW → Prop} {ρ1 : Env} (hm : P.follows .mixedOrders = true) (hN : dstsOk N ops = true) (hok : linXOk ops x d p pre qx nhx post = true)
    (hxo : ops[x]? = some ox) (hxg : ox.guard = none) (hxd : ox.dst = some d) (hmk : Makes P ox cells elem esz mk) (hoff : OffL ops p ρ ρ1) (hop : FFl P ops p ρ1 aw)
    (hk : LinX P ops d cells elem esz mk qx nhx post aw (fun ρ' ds' aw' => AGo P N k ρ' ds' aw' R) (fun ch ρ' ds' aw' => R (.panic ch) ρ' ds' aw') pre ρ1 ds aw) :
    AGo P N (.code (.region id ops true) :: k) ρ ds aw R := by
  simp only [linXOk, Bool.and_eq_true] at hok
  obtain ⟨⟨⟨⟨⟨⟨⟨⟨⟨⟨h1, h2⟩, h3⟩, h4⟩, h5⟩, h6⟩, h7⟩, h8⟩, h9⟩, h10⟩, h11⟩ := hok
  refine ago_of_wp fun base w0 s a w hst => wp_region_any hm ?_
  simp only [List.all_eq_true, Bool.and_eq_true, bne_iff_ne, ne_eq, Bool.or_eq_true, beq_iff_eq, decide_eq_true_eq, List.mem_range, List.any_eq_true] at h1 h2 h3 h8 h10 h11
  have hmask : ∀ j, (Array.replicate ops.size false).getD j true = if j < ops.size then false else true := by
    intro j
    simp only [Array.getD_eq_getD_getElem?]
    by_cases hj : j < ops.size
    · simp [hj]
    · simp [hj]
  have h0 : left (Array.replicate ops.size false) = ops.size := by
    unfold left
    rw [Array.toList_replicate, List.countP_replicate]
    simp
  have hxs : x < ops.size := (Array.getElem?_eq_some_iff.1 hxo).1
  have hdN : d < N := dstsOk_get hN (j := x) (by simp [hxo, hxd])
  have hst' : St P.globals.size base w0 s ρ N ds aw a w.drew := ⟨hst.rel.drew, hst.env, hst.size, hst.dfr, hst.mrk, hst.nd⟩
  have hq : ∀ e ∈ pre ++ (x, qx, nhx) :: post, ∀ j, j ∈ e.2.1 ∨ j ∈ e.2.2 → j ∈ quietOf p (pre ++ (x, qx, nhx) :: post) := fun e he j hj => List.mem_append.2 (.inr (List.mem_flatMap.2 ⟨e, he, List.mem_append.2 hj⟩))
  refine lin_pre (hs := quietOf p (pre ++ (x, qx, nhx) :: post)) (wS := w.drew) (awS := aw) hN ?_ h4 h5 hxo hxg hxd hdN hmk hst'.rel ops.size _ false ρ ρ1 ds aw p pre a w.drew (by simp) h0 (by rw [hmask, if_pos hxs]) ?_ ?_ ?_ (fun i hi => List.mem_append.2 (.inl hi)) ?_ h6 h7 h8 h9 h10 ?_ hop hk ⟨s, Inj.le_refl s, hst', Nat.le_refl _⟩
  · intro i hi
    obtain ⟨⟨⟨b1, b2⟩, b3⟩, b4⟩ := h1 i hi
    obtain ⟨d, hd⟩ := Option.isSome_iff_exists.1 b2
    exact ⟨b1, d, hd, fun j hj hjd => ((b3 j hj).resolve_right (fun h => h (hd.trans hjd.symm))).symm⟩
  · intro j hj _
    rcases h3 j hj with h | ⟨e, he, h⟩
    · exact .inl (by simpa using h)
    · refine .inr ⟨e, he, ?_⟩
      rcases h with h | h
      · exact .inl h
      · exact .inr (by simpa using h)
  · intro e he
    refine ⟨h2 e he, fun _ => by rw [hmask, if_pos (h2 e he)], fun i hi => ?_, fun j hj => hq e he j (.inl hj), fun j hj => ⟨hq e he j (.inr hj), ?_⟩⟩
    · obtain ⟨_, b4⟩ := h1 i hi
      exact b4 e he
    · obtain ⟨⟨⟨b1, _⟩, _⟩, _⟩ := h1 j (hq e he j (.inr hj))
      rw [hmask, if_pos b1]
  · intro j hj hjs
    unfold listedOf at hj
    rw [hmask, if_pos hjs] at hj; cases hj
  · intro t ht
    refine (hoff t fun j hj => ht j hj ?_).symm
    obtain ⟨⟨⟨b1, _⟩, _⟩, _⟩ := h1 j (List.mem_append.2 (.inl hj))
    rw [hmask, if_pos b1]
  · intro i hi o ho
    have hmem : i ∈ p ++ pre.flatMap fun e => e.1 :: (e.2.1 ++ e.2.2) := by
      rcases hi with h | ⟨e, he, h⟩
      · exact List.mem_append.2 (.inl h)
      · refine List.mem_append.2 (.inr (List.mem_flatMap.2 ⟨e, he, ?_⟩))
        rcases h with h | h | h
        · rw [h]; simp
        · simp [h]
        · simp [h]
    have := h11 i hmem
    rw [ho] at this
    simp only [Option.map_some, Option.getD_some, Bool.and_eq_true, Bool.not_eq_true', bne_iff_ne, ne_eq] at this
    obtain ⟨⟨g1, g2⟩, g3⟩ := this
    refine ⟨fun h => by simp [h] at g1, g2, fun cs b h => ?_⟩
    rw [h] at g3; cases g3
end
end Go.Am

set_option linter.unusedSimpArgs false
set_option linter.unusedVariables false
set_option linter.unusedSectionVars false
namespace Go.Ri
open Go Go.Am Go.RowKit
variable [SymE] [FT] [FTok]
def isAl (ops : Array Oper) (i : Nat) : Option (Tmp × TypeId) := match ops[i]? with
  | some o => (match o.dst, o.guard, o.op with
    | some d, none, .alloc t => some (d, t)
    | _, _, _ => none)
  | none => none
theorem isAl_spec {ops : Array Oper} {i : Nat} {d : Tmp} {t : TypeId} (h : isAl ops i = some (d, t)) : ∃ o, ops[i]? = some o ∧ o.dst = some d ∧ o.guard = none ∧ o.op = .alloc t := by
  unfold isAl at h
  split at h
  · rename_i o ho
    split at h
    · rename_i d' t' h1 h2 h3
      simp only [Option.some.injEq, Prod.mk.injEq] at h
      obtain ⟨rfl, rfl⟩ := h
      exact ⟨o, ho, h1, h2, h3⟩
    · cases h
  · cases h
noncomputable def cutX (ops : Array Oper) : Tl → Option (Tl × (Nat × List Nat × List Nat) × Tl) := List.rec (motive := fun _ => Option (Tl × (Nat × List Nat × List Nat) × Tl)) none
  (fun e r ih => match isAl ops e.1 with
    | some _ => some ([], e, r)
    | none => (match ih with
      | some (a, b, c) => some (e :: a, b, c)
      | none => none))
noncomputable def roAt (M M1 : Mem) (b : Nat) : Bool := match M1.at b with
  | none => true
  | some B => bif B.rw then true else (match M.at b with
    | none => false
    | some _ => true)
noncomputable def roChk (M M1 : Mem) (k : Nat) : Nat → Bool := Nat.rec (motive := fun _ => Nat → Bool) (fun b => roAt M M1 b) (fun k ih b => Bool.rec (motive := fun _ => Bool) false (ih (Nat.add b (Nat.pow 2 k))) (ih b)) k
noncomputable def roOk (M M1 : Mem) : Bool := roChk M M1 (Nat.succ (Nat.log2 M1.next)) 0
theorem roChk_spec {M M1 : Mem} : ∀ {k b : Nat}, roChk M M1 k b = true → ∀ c, b ≤ c → c < b + 2 ^ k → roAt M M1 c = true
  | 0, b, h, c, h1, h2 => by
    obtain rfl : c = b := by simp at h2; omega
    exact h
  | k + 1, b, h, c, h1, h2 => by
    have h : Bool.rec (motive := fun _ => Bool) false (roChk M M1 k (b + 2 ^ k)) (roChk M M1 k b) = true := h
    cases hb : roChk M M1 k b with
    | false => rw [hb] at h; cases h
    | true =>
      rw [hb] at h
      by_cases hc : c < b + 2 ^ k
      · exact roChk_spec hb c h1 hc
      · exact roChk_spec h c (by omega) (by rw [Nat.pow_succ] at h2; omega)
theorem roOk_spec {M M1 : Mem} (h : roOk M M1 = true) (b : Nat) (B : Blk) (hb : b < M1.abs.next) (hB : M1.abs.m b = some B) (hr : B.rw = false) : ∃ B0, M.abs.m b = some B0 := by
  have hlt : b < 2 ^ (Nat.log2 M1.next + 1) := Nat.lt_of_lt_of_le hb (Nat.le_of_lt Nat.lt_log2_self)
  have := roChk_spec h b (Nat.zero_le _) (by rw [Nat.zero_add]; exact hlt)
  unfold roAt at this
  have hB : (M1.at b).map RB.abs = some B := hB
  cases h1 : M1.at b with
  | none => rw [h1] at hB; cases hB
  | some C =>
    rw [h1] at hB this
    simp only [Option.map_some, Option.some.injEq] at hB
    subst hB
    have hr : C.rw = false := hr
    simp only [hr, cond_false] at this
    cases h0 : M.at b with
    | none => rw [h0] at this; cases this
    | some C0 => exact ⟨C0.abs, M.abs_m h0⟩
noncomputable def drawX (P : Program) (X : Exts) (C : Caller) (ops : Array Oper) (hs : List Nat) (pre : Tl) (e : Nat × List Nat × List Nat) (post : Tl) (ρ : T Value) (ds : List Deferred) (M : Mem) : OpsR := match drawR P X C ops hs pre ρ ds M with
  | .norm ρ1 ds1 M1 => bif roOk M M1 then tailR P X C ops (e :: post) ρ1 ds1 M1 else .bad
  | _ => .bad
noncomputable def linXo (P : Program) (ops : Array Oper) (hs : List Nat) (pre : Tl) (e : Nat × List Nat × List Nat) (post : Tl) : Bool := match isAl ops e.1 with
  | none => false
  | some (d, t) => linXOk ops e.1 d hs pre e.2.1 e.2.2 post && (match (P.info? t).bind (·.zero) with
    | none => false
    | some z => plains (cellsL z))
section
variable {P : Program} {X : Exts} {C : Caller} {N : Nat} {ops : Array Oper} {Kn : Env → List Deferred → AW → Prop} {Kp : List PanicEntry → Env → List Deferred → AW → Prop}
theorem linX_of {d : Tmp} {cells : List Value} {elem esz : Nat} {mk : Nat → Value} {qx nhx : List Nat} {post : Tl} {awS : AW} {ρ1 : Env} {ds1 : List Deferred} {aw1 : AW} (H : LinX P ops d cells elem esz mk qx nhx post awS Kn Kp [] ρ1 ds1 aw1) :
    ∀ {pre : Tl} {ρ : Env} {ds : List Deferred} {aw : AW}, LinT P ops (fun ρ' ds' aw' => ρ' = ρ1 ∧ ds' = ds1 ∧ aw' = aw1) (fun _ _ _ _ => False) pre ρ ds aw → LinX P ops d cells elem esz mk qx nhx post awS Kn Kp pre ρ ds aw
  | [], ρ, ds, aw, h => by
    obtain ⟨rfl, rfl, rfl⟩ := h
    exact H
  | (t, q, nh) :: r, ρ, ds, aw, h => by
    obtain ⟨o, ho, hs⟩ := h
    refine ⟨o, ho, ?_⟩
    cases hs with
    | val h hn =>
      obtain ⟨ρ2, k1, k2, k3⟩ := hn
      exact .val h ⟨ρ2, k1, k2, linX_of H k3⟩
    | skip h hn =>
      obtain ⟨ρ2, k1, k2, k3⟩ := hn
      exact .skip h ⟨ρ2, k1, k2, linX_of H k3⟩
    | call h hn =>
      refine .call h (ACalls.mono hn fun e aw' he => ?_)
      cases e with
      | returned v =>
        obtain ⟨ρ2, k1, k2, k3⟩ := he
        exact ⟨ρ2, k1, k2, linX_of H k3⟩
      | panicked ch => exact he
    | panic h hn => exact .panic h hn
theorem drawX_spec (hX : ExtOk P X) (hC : CS P C) (hm : P.follows .mixedOrders = true) (hN : dstsOk N ops = true) {hs : List Nat} {pre : Tl} {e : Nat × List Nat × List Nat} {post : Tl} (hok : linXo P ops hs pre e post = true) {id : Nat} {k : List Item} {R : ADone → Env → List Deferred → AW → Prop} {ρ : T Value} {ds : List Deferred} {M : Mem}
    (h : (drawX P X C ops hs pre e post ρ ds M).holdsX ops (fun ρ' ds' aw' => AGo P N k ρ' ds' aw' R) (fun ch ρ' ds' aw' => R (.panic ch) ρ' ds' aw')) : AGo P N (.code (.region id ops true) :: k) (slot ρ) ds M.abs R := by
  obtain ⟨x, qx, nhx⟩ := e
  unfold linXo at hok
  split at hok
  · cases hok
  rename_i d t hal
  obtain ⟨o, ho, hd, hg, hop⟩ := isAl_spec hal
  rw [Bool.and_eq_true] at hok
  obtain ⟨hok, hz⟩ := hok
  split at hz
  · cases hz
  rename_i z hzz
  unfold drawX at h
  split at h
  case h_2 => exact h.elim
  rename_i ρ1 ds1 M1 hdr
  cases hro : roOk M M1 with
  | false => rw [hro] at h; exact h.elim
  | true =>
  rw [hro] at h
  simp only [cond_true] at h
  unfold drawR at hdr
  split at hdr
  · cases hdr
  rename_i ρ0 hh
  cases hb : again P ops (slot ρ0) M hs with
  | false => rw [hb] at hdr; cases hdr
  | true =>
  rw [hb] at hdr
  simp only [cond_true] at hdr
  have hcl : cellsL z = z.cells.toList := cellsL_eq z
  have hmk : Makes P o z.cells.toList t 0 (fun b => .pointer (some ⟨b, 0, none⟩)) := by
    refine ⟨by rw [← hcl]; exact hz, fun f w => ?_, fun s b e he h0 => ?_⟩
    · simp only [execOp, hop, Instr.alloc, Sem.run_bind, run_zeroValue' hzz, Result.andThen_ok, newVar, run_newRow, Sem.run_pure]
    · have := VR.ptr (s := s) (o := 0) he
      rw [h0] at this
      simpa using this
  have hlin : LinT P ops (fun ρ' ds' aw' => ρ' = slot ρ1 ∧ ds' = ds1 ∧ aw' = M1.abs) (fun _ _ _ _ => False) pre (slot ρ0) ds M.abs := tail_spec hX hC (by rw [hdr]; exact ⟨rfl, rfl, rfl⟩)
  refine ago_drawX hm hN hok ho hg hd hmk (heads_spec hh) (again_spec hb) (linX_of ⟨roOk_spec hro, ?_⟩ hlin)
  have h : OpsR.holdsX ops _ _ (match ops[x]? with
      | none => OpsR.bad
      | some o => (match o.op with
        | .defer _ => .bad
        | _ => op1 P X C ops o ρ1 ds1 M1 fun ρ ds M => (match heads P ops M nhx ρ with
          | none => .bad
          | some ρ => bif again P ops (slot ρ) M (qx ++ nhx) then tailR P X C ops post ρ ds M else .bad))) := h
  rw [ho] at h
  simp only [hop, op1, hg, gd] at h
  have hal : eOp P (slot ρ1) M1 (.alloc t) = some (.pointer (some ⟨M1.next, 0, none⟩), M1.alloc (cellsL z) t 0) := by
    show eAlloc P M1 t = _
    unfold eAlloc
    rw [hzz]
    simp only [hz, cond_true]
  rw [hal] at h
  simp only [doV_eq, doT_eq, doM_eq] at h
  split at h
  · exact h.elim
  rename_i ρ2 hh2
  cases hb2 : again P ops (slot ρ2) (M1.alloc (cellsL z) t 0) (qx ++ nhx) with
  | false => rw [hb2] at h; exact h.elim
  | true =>
    rw [hb2] at h
    simp only [cond_true] at h
    have ha : (M1.alloc (cellsL z) t 0).abs = M1.abs.alloc z.cells.toList t 0 := by rw [← hcl]; exact Mem.alloc_spec ..
    have k1 := heads_spec hh2
    have k2 := again_spec hb2
    have k3 := tail_spec hX hC h
    rw [ha] at k2 k3
    rw [slot_put, hd] at k1
    exact ⟨slot ρ2, k1, k2, k3⟩
end
end Go.Ri

set_option linter.unusedSimpArgs false
set_option linter.unusedVariables false
set_option linter.unusedSectionVars false
namespace Go.Am
open Go Go.RowKit
variable [SymE]
structure Flo where
  x : Nat
  d : Tmp
  cells : List Value
  elem : Nat
  esz : Nat
  ref : Nat → Value
structure MakesR (P : Program) (ops : Array Oper) (o : Oper) (ρ : Env) (F : Flo) : Prop where
  pl : plains F.cells = true
  run : ∀ (ρ' : Env), Agr ops o ρ ρ' → ∀ (s : Inj) (f : Operand → Value) (w : World), (∀ y, okOpd P.globals.size y = true → VR s (ρ'.eval y) (f y)) → (execOp f o).run P w = .ok (.value (F.ref w.heap.size)) (w.alloc (.cells F.cells.toArray F.elem (0, 0)))
  vr : ∀ (s : Inj) (b : Nat) (e : Ent), s b = some e → e.off = 0 → VR s (F.ref b) (F.ref e.cb)
def hide (D : List Tmp) (ρ : Env) : Env := fun t => if t ∈ D then undef else ρ t
def hideA : List Tmp → Act → Act
  | [], a => a
  | d :: D, a => (hideA D a).put (some d) undef
theorem hide_put {D : List Tmp} {ρ : Env} {x : Option Tmp} {v : Value} (h : ∀ d ∈ D, x ≠ some d) : hide D (ρ.put x v) = (hide D ρ).put x v := by
  cases x with
  | none => rfl
  | some x =>
    funext t
    simp only [hide, Env.put_some]
    by_cases ht : t ∈ D
    · rw [if_pos ht, if_pos ht, if_neg]
      rintro rfl
      exact h _ ht rfl
    · rw [if_neg ht, if_neg ht]
theorem hideA_put {x : Option Tmp} {v : Value} : ∀ {D : List Tmp} {a : Act}, (∀ d ∈ D, x ≠ some d) → hideA D (a.put x v) = (hideA D a).put x v
  | [], _, _ => rfl
  | d :: D, a, h => by
    simp only [hideA]
    rw [hideA_put (fun e he => h e (List.mem_cons_of_mem _ he)), Act.put_comm _ v undef (fun e he h' => h d (List.mem_cons_self ..) (he.trans (by rw [← h'])))]
theorem hideA_size : ∀ (D : List Tmp) (a : Act), (hideA D a).tmps.size = a.tmps.size
  | [], _ => rfl
  | d :: D, a => by simp only [hideA, put_size, hideA_size D a]
theorem hideA_defers : ∀ (D : List Tmp) (a : Act), (hideA D a).defers = a.defers
  | [], _ => rfl
  | d :: D, a => by simp only [hideA, put_defers, hideA_defers D a]
theorem put_getD_undef (a : Act) (d t : Tmp) : (a.put (some d) undef).tmps.getD t undef = if t = d then undef else a.tmps.getD t undef := by
  by_cases h : t = d
  · subst h
    rw [if_pos rfl]
    simp only [Act.put, Array.getD_eq_getD_getElem?, Array.getElem?_setIfInBounds]
    simp only [if_true]
    split <;> rfl
  · rw [if_neg h]
    simp only [Act.put, Array.getD_eq_getD_getElem?, Array.getElem?_setIfInBounds]
    rw [if_neg (fun e => h e.symm)]
theorem hideA_getD : ∀ (D : List Tmp) (a : Act) (t : Tmp), (hideA D a).tmps.getD t undef = if t ∈ D then undef else a.tmps.getD t undef
  | [], _, _ => by simp [hideA]
  | d :: D, a, t => by
    simp only [hideA]
    rw [put_getD_undef, hideA_getD D a t]
    by_cases h : t = d
    · rw [if_pos h, if_pos (by rw [h]; exact List.mem_cons_self ..)]
    · rw [if_neg h]
      by_cases h2 : t ∈ D
      · rw [if_pos h2, if_pos (List.mem_cons_of_mem _ h2)]
      · rw [if_neg h2, if_neg (fun hm => (List.mem_cons.1 hm).elim h h2)]
section
variable {ops : Array Oper} {o : Oper}
theorem execOp_hide (hs : ∀ cs b, o.op ≠ .select cs b) : ∀ {D : List Tmp} (a : Act), (∀ d ∈ D, d ∉ looks ops o) → execOp a.eval o = execOp (hideA D a).eval o
  | [], _, _ => rfl
  | d :: D, a, h => by
    simp only [hideA]
    rw [execOp_put (ops := ops) o hs (hideA D a) (some d) undef (fun e he => by obtain rfl := Option.some.inj he; exact h d (List.mem_cons_self ..))]
    exact execOp_hide hs a (fun e he => h e (List.mem_cons_of_mem _ he))
theorem wanted_hide : ∀ {D : List Tmp} (a : Act), (∀ d ∈ D, d ∉ looks ops o) → Region.wanted o (yielded ops a.tmps) = Region.wanted o (yielded ops (hideA D a).tmps)
  | [], _, _ => rfl
  | d :: D, a, h => by
    simp only [hideA]
    rw [wanted_put o (hideA D a) (some d) undef (fun e he => by obtain rfl := Option.some.inj he; exact h d (List.mem_cons_self ..))]
    exact wanted_hide a (fun e he => h e (List.mem_cons_of_mem _ he))
theorem looks_hide {D : List Tmp} {ρ : Env} (h : ∀ d ∈ D, d ∉ looks ops o) : Agr ops o ρ (hide D ρ) := fun t ht => by
  unfold hide
  rw [if_neg (fun hm => h t hm ht)]
end
section
variable {G : Nat} {base : Nat → Prop} {w0 : World} {s : Inj} {aw : AW} {w : World}
theorem Rel.keepAll (h : Rel G base w0 s aw w) {L : List Nat} (hc : ∀ c ∈ L, c < w.heap.size) (hs : ∀ b B e, aw.m b = some B → B.rw = true → s b = some e → e.cb ∉ L) : Rel G (fun k => base k ∨ k ∈ L) w s aw w :=
  ⟨h.fresh, h.mfresh, fun b B hB => by
    obtain ⟨e, cs', fz', h1, h2, h3, h4, h5, h6, h7⟩ := h.blk b B hB
    refine ⟨e, cs', fz', h1, h2, h3, h4, h5, h6, fun hr => ⟨fun hk => ?_, (h7 hr).2⟩⟩
    rcases hk with hk | hk
    · exact (h7 hr).1 hk
    · exact hs b B e hB hr h1 hk, h.sep, fun k hk => hk.elim (h.hbase k) (hc k), h.glob, Keep.refl _ _⟩
end
abbrev Apt := List (Flo × Nat)
abbrev Apt.ds (A : Apt) : List Tmp := A.map fun p => p.1.d
abbrev Apt.cbs (A : Apt) : List Nat := A.map fun p => p.2
structure SG (G : Nat) (base : Nat → Prop) (w0 : World) (s0 : Inj) (N : Nat) (A : Apt) (lo : Nat) (ρ : Env) (ds : List Deferred) (aw : AW) (a : Act) (w : World) : Prop where
  ex : ∃ s1, s0.le s1 ∧ St G base w0 s1 (hide A.ds ρ) N ds aw (hideA A.ds a) w
  low : lo ≤ w.heap.size
  apt : ∀ p ∈ A, w.heap[p.2]? = some (.cells p.1.cells.toArray p.1.elem (0, 0)) ∧ ¬ base p.2 ∧ lo ≤ p.2 ∧ a.tmps[p.1.d]? = some (p.1.ref p.2)
  nd : A.cbs.Nodup
section
variable {P : Program} {N : Nat} {ops : Array Oper} {i : Nat} {o : Oper} {K : Act → World → Prop} {Q : Exit → Act → World → Prop} {a : Act} {w wS : World}
  {base : Nat → Prop} {w0 : World} {s0 : Inj} {ρ : Env} {ds : List Deferred} {aw : AW} {v : Value} {A : Apt}
theorem SG.read (h : SG P.globals.size base w0 s0 N A wS.heap.size ρ ds aw a w) (hS : Rel P.globals.size base w0 s0 aw wS) (hN : dstsOk N ops = true) (ho : ops[i]? = some o) (hq : ∀ p ∈ A, Early ops p.1.d o)
    (hv : ∀ ρ2, Agr ops o ρ ρ2 → (wants ops o ρ2 true ∧ OpV P o ρ2 aw v aw) ∨ (wants ops o ρ2 false ∧ v = undef) ∨ (wants ops o ρ2 true ∧ ∃ fid args, OpC P o ρ2 fid args ∧ ACalls P fid args aw fun e aw' => e = .returned v ∧ aw' = aw))
    (hk : ∀ a' w', SG P.globals.size base w0 s0 N A wS.heap.size (ρ.put o.dst v) ds aw a' w' → K a' w') : wpOp P ops Q i K a w := by
  obtain ⟨⟨s1, h1, h2⟩, h3, h4, h5⟩ := h
  have hdn : ∀ d ∈ A.ds, o.dst ≠ some d := fun d hd => by
    obtain ⟨p, hp, rfl⟩ := List.mem_map.1 hd
    exact (hq p hp).2.1
  have hdl : ∀ d ∈ A.ds, d ∉ looks ops o := fun d hd => by
    obtain ⟨p, hp, rfl⟩ := List.mem_map.1 hd
    exact (hq p hp).1
  rcases Classical.em (A = []) with hA | hA
  · subst hA
    rcases hv (hide [] ρ) (looks_hide hdl) with ⟨g1, g2⟩ | ⟨g1, rfl⟩ | ⟨g1, fid, args, g2, g3⟩
    · exact gen_val ho hN h2 h2.rel.re (fun _ h => h) rfl rfl g1 g2 fun s' v' w' k1 k2 k3 => hk _ _ ⟨⟨s', Inj.le_trans h1 k1, by rw [hide_put (fun d hd => hdn d hd), hideA_put (fun d hd => hdn d hd)]; exact k2⟩, Nat.le_trans h3 k3.below.size, (fun p hp => by cases hp), List.nodup_nil⟩
    · exact gen_skip ho hN h2 h2.rel.re rfl g1 fun k2 => hk _ _ ⟨⟨s1, h1, by rw [hide_put (fun d hd => hdn d hd), hideA_put (fun d hd => hdn d hd)]; exact k2⟩, h3, (fun p hp => by cases hp), List.nodup_nil⟩
    · refine gen_call (R := fun u aw' => u = v ∧ aw' = aw) ho hN h2 h2.rel.re (fun _ h => h) rfl rfl g1 g2 (g3.mono fun e aw' he => by obtain ⟨rfl, rfl⟩ := he; exact ⟨rfl, rfl⟩) ?_
      rintro s' u v' aw' w' ⟨rfl, rfl⟩ k1 k2 k3
      exact hk _ _ ⟨⟨s', Inj.le_trans h1 k1, by rw [hide_put (fun d hd => hdn d hd), hideA_put (fun d hd => hdn d hd)]; exact k2⟩, Nat.le_trans h3 k3.below.size, (fun p hp => by cases hp), List.nodup_nil⟩
  · have hsel : ∀ cs b, o.op ≠ .select cs b := by
      cases A with
      | nil => exact absurd rfl hA
      | cons p0 A0 => exact (hq p0 (List.mem_cons_self ..)).2.2
    have hE : execOp a.eval o = execOp (hideA A.ds a).eval o := execOp_hide hsel a hdl
    have hW : Region.wanted o (yielded ops a.tmps) = Region.wanted o (yielded ops (hideA A.ds a).tmps) := wanted_hide a hdl
    have hx : Rel P.globals.size (fun k => base k ∨ k ∈ A.cbs) w s1 aw w := h2.rel.keepAll (fun c hc => by
      obtain ⟨p, hp, rfl⟩ := List.mem_map.1 hc
      exact (Array.getElem?_eq_some_iff.1 (h4 p hp).1).1) (fun b B e hb hr he hm => by
      obtain ⟨p, hp, hpe⟩ := List.mem_map.1 hm
      obtain ⟨e0, cs, fz, g1, _⟩ := hS.blk b B hb
      have g2 := h1 b e0 g1
      rw [he] at g2; obtain rfl := Option.some.inj g2
      have := hS.cbLt hb g1
      have := (h4 p hp).2.2.1
      omega)
    have fin : ∀ s' v' w', s1.le s' → St P.globals.size base w0 s' ((hide A.ds ρ).put o.dst v) N ds aw ((hideA A.ds a).put o.dst v') w' → Rel P.globals.size (fun k => base k ∨ k ∈ A.cbs) w s' aw w' → K (a.put o.dst v') w' := fun s' v' w' k1 k2 k3 => by
      refine hk _ _ ⟨⟨s', Inj.le_trans h1 k1, by rw [hide_put hdn, hideA_put hdn]; exact k2⟩, Nat.le_trans h3 k3.below.size, fun p hp => ?_, h5⟩
      obtain ⟨q1, q2, q3, q4⟩ := h4 p hp
      exact ⟨(k3.below.block p.2 (.inr (List.mem_map.2 ⟨p, hp, rfl⟩))).trans q1, q2, q3, by rw [act_get_ne a v' (hq p hp).2.1]; exact q4⟩
    rcases hv (hide A.ds ρ) (looks_hide hdl) with ⟨g1, g2⟩ | ⟨g1, rfl⟩ | ⟨g1, fid, args, g2, g3⟩
    · exact gen_val ho hN h2 hx (fun _ h => .inl h) hE hW g1 g2 fin
    · exact gen_skip ho hN h2 h2.rel.re hW g1 fun k2 => fin s1 undef w (Inj.le_refl s1) k2 hx
    · refine gen_call (R := fun u aw' => u = v ∧ aw' = aw) ho hN h2 hx (fun _ h => .inl h) hE hW g1 g2 (g3.mono fun e aw' he => by obtain ⟨rfl, rfl⟩ := he; exact ⟨rfl, rfl⟩) ?_
      rintro s' u v' aw' w' ⟨rfl, rfl⟩ k1 k2 k3
      exact fin s' v' w' k1 k2 k3
theorem SG.make {F : Flo} (h : SG P.globals.size base w0 s0 N A wS.heap.size ρ ds aw a w) (ho : ops[i]? = some o) (hg : o.guard = none) (hd : o.dst = some F.d) (hdN : F.d < N) (hm : MakesR P ops o ρ F) (hnew : F.d ∉ A.ds)
    (hsel : ∀ cs b, o.op ≠ .select cs b) (hdl : ∀ d ∈ A.ds, d ∉ looks ops o)
    (hk : ∀ a' w' cb, SG P.globals.size base w0 s0 N ((F, cb) :: A) wS.heap.size ρ ds aw a' w' → K a' w') : wpOp P ops Q i K a w := by
  obtain ⟨⟨s1, h1, h2⟩, h3, h4, h5⟩ := h
  have hw : Region.wanted o (yielded ops a.tmps) = true := by unfold Region.wanted; rw [hg]
  have hE : execOp a.eval o = execOp (hideA A.ds a).eval o := execOp_hide hsel a hdl
  simp only [wpOp, ho, if_pos hw]
  left
  unfold Oper.wp
  rw [hE, hm.run (hide A.ds ρ) (looks_hide hdl) s1 _ w (fun y hy => h2.eval hy)]
  have hda : F.d < a.tmps.size := by have := h2.size; rw [hideA_size] at this; rw [this]; exact hdN
  refine hk _ _ w.heap.size ⟨⟨s1, h1, ?_⟩, ?_, ?_, ?_⟩
  · have e1 : hide (Apt.ds ((F, w.heap.size) :: A)) ρ = (hide A.ds ρ).put (some F.d) undef := by
      funext t
      simp only [hide, Env.put_some, Apt.ds, List.map_cons, List.mem_cons]
      by_cases ht : t = F.d
      · rw [if_pos (.inl ht), if_pos ht]
      · rw [if_neg ht]
        by_cases ht2 : t ∈ List.map (fun p : Flo × Nat => p.1.d) A
        · rw [if_pos (.inr ht2), if_pos ht2]
        · rw [if_neg (fun h => h.elim ht ht2), if_neg ht2]
    have e2 : hideA (Apt.ds ((F, w.heap.size) :: A)) (a.put o.dst (F.ref w.heap.size)) = (hideA A.ds a).put (some F.d) undef := by
      show (hideA A.ds (a.put o.dst (F.ref w.heap.size))).put (some F.d) undef = _
      rw [hd, hideA_put (fun d hd' h' => hnew (by obtain rfl := Option.some.inj h'; exact hd')), act_put_put]
    rw [e1, e2]
    refine ⟨h2.rel.grow _, put_env h2.env (fun e he => by obtain rfl := Option.some.inj he; rw [hideA_size]; exact hda) VR.undef, by rw [put_size]; exact h2.size, by rw [put_defers]; exact h2.dfr, ?_, by rw [put_defers]; exact h2.nd⟩
    rw [put_defers]
    intro r hr
    obtain ⟨g1, g2⟩ := h2.mrk r hr
    exact ⟨g1, by rw [Below.heap_alloc _ _ _ (Array.getElem?_eq_some_iff.1 g2).1]; exact g2⟩
  · show wS.heap.size ≤ (w.heap.push _).size
    simp; omega
  · intro p hp
    rcases List.mem_cons.1 hp with rfl | hp
    · refine ⟨?_, fun hb => absurd (h2.rel.hbase _ hb) (Nat.lt_irrefl _), h3, ?_⟩
      · show (w.heap.push _)[w.heap.size]? = _
        simp
      · rw [hd]; simp [Act.put, hda]
    · obtain ⟨q1, q2, q3, q4⟩ := h4 p hp
      refine ⟨by rw [Below.heap_alloc _ _ _ (Array.getElem?_eq_some_iff.1 q1).1]; exact q1, q2, q3, ?_⟩
      rw [hd, act_get_ne a _ (fun h => hnew (by obtain h := Option.some.inj h; rw [h]; exact List.mem_map.2 ⟨p, hp, rfl⟩))]
      exact q4
  · simp only [Apt.cbs, List.map_cons, List.nodup_cons]
    refine ⟨fun hm => ?_, h5⟩
    obtain ⟨p, hp, hpe⟩ := List.mem_map.1 hm
    have := (Array.getElem?_eq_some_iff.1 (h4 p hp).1).1
    omega
end
def putsF : List Flo → Nat → Env → Env
  | [], _, ρ => ρ
  | F :: r, n, ρ => putsF r (n + 1) (ρ.put (some F.d) (F.ref n))
def allocs : List Flo → AW → AW
  | [], aw => aw
  | F :: r, aw => allocs r (aw.alloc F.cells F.elem F.esz)
section
variable {G N : Nat} {base : Nat → Prop} {w0 : World} {ds : List Deferred} {a : Act} {w : World}
theorem meet_all (cb : Flo → Nat) : ∀ (xs : List Flo) (s : Inj) (ρ : Env) (aw : AW), Rel G base w0 s aw w → (∀ t, t ∉ xs.map (·.d) → VR s (ρ t) (a.tmps.getD t undef)) → (xs.map (·.d)).Nodup → (xs.map cb).Nodup →
    (∀ F ∈ xs, w.heap[cb F]? = some (.cells F.cells.toArray F.elem (0, 0)) ∧ ¬ base (cb F) ∧ a.tmps[F.d]? = some (F.ref (cb F)) ∧ plains F.cells = true ∧ (∀ (s : Inj) (b : Nat) (e : Ent), s b = some e → e.off = 0 → VR s (F.ref b) (F.ref e.cb)) ∧
      ∀ b B e, aw.m b = some B → s b = some e → e.cb ≠ cb F) →
    ∃ s', s.le s' ∧ Rel G base w0 s' (allocs xs aw) w ∧ ∀ t, VR s' (putsF xs aw.next ρ t) (a.tmps.getD t undef)
  | [], s, ρ, aw, hr, he, _, _, _ => ⟨s, Inj.le_refl s, hr, fun t => he t (by simp)⟩
  | F :: r, s, ρ, aw, hr, he, hn1, hn2, hF => by
    obtain ⟨f1, f2, f3, f4, f5, f6⟩ := hF F (List.mem_cons_self ..)
    obtain ⟨s1, k1, k2, k3⟩ := hr.attach F.elem F.esz f4 f1 f2 f6
    simp only [List.map_cons, List.nodup_cons] at hn1 hn2
    have := meet_all cb r s1 (ρ.put (some F.d) (F.ref aw.next)) (aw.alloc F.cells F.elem F.esz) k3 (fun t ht => ?_) hn1.2 hn2.2 (fun H hH => ?_)
    · obtain ⟨s2, j1, j2, j3⟩ := this
      exact ⟨s2, Inj.le_trans k1 j1, j2, j3⟩
    · rw [put_at]
      by_cases htd : t = F.d
      · rw [if_pos htd, htd]
        have e : a.tmps.getD F.d undef = F.ref (cb F) := by
          obtain ⟨q1, q2⟩ := Array.getElem?_eq_some_iff.1 f3
          simp [Array.getD, q1, q2]
        rw [e]
        exact f5 s1 _ _ k2 rfl
      · rw [if_neg htd]
        exact (he t (fun hm => (List.mem_cons.1 hm).elim htd ht)).mono k1
    · obtain ⟨g1, g2, g3, g4, g5, g6⟩ := hF H (List.mem_cons_of_mem _ hH)
      refine ⟨g1, g2, g3, g4, g5, fun b B e hb hs => ?_⟩
      simp only [AW.alloc] at hb
      by_cases hbn : b = aw.next
      · subst hbn
        rw [k2] at hs
        obtain rfl := Option.some.inj hs
        exact fun h => hn2.1 (by have h : cb F = cb H := h; rw [h]; exact List.mem_map.2 ⟨H, hH, rfl⟩)
      · rw [if_neg hbn] at hb
        obtain ⟨e', cs, fz, q1, _⟩ := hr.blk b B hb
        have := k1 b e' q1
        rw [hs] at this; obtain rfl := Option.some.inj this
        exact g6 b B _ hb q1
end
end Go.Am

set_option linter.unusedSimpArgs false
set_option linter.unusedVariables false
set_option linter.unusedSectionVars false
namespace Go.Am
open Go Go.RowKit
variable [SymE]
theorem putsF_congr {t : Tmp} : ∀ (xs : List Flo) (n : Nat) (ρ ρ' : Env), (t ∈ xs.map (·.d) ∨ ρ t = ρ' t) → putsF xs n ρ t = putsF xs n ρ' t
  | [], _, _, _, h => by
    rcases h with h | h
    · cases h
    · exact h
  | F :: r, n, ρ, ρ', h => by
    refine putsF_congr r (n + 1) _ _ ?_
    by_cases hr : t ∈ r.map (·.d)
    · exact .inl hr
    · refine .inr ?_
      rw [put_at, put_at]
      by_cases hd : t = F.d
      · rw [if_pos hd, if_pos hd]
      · rw [if_neg hd, if_neg hd]
        rcases h with h | h
        · exact ((List.mem_cons.1 h).elim hd hr).elim
        · exact h
def LinG (P : Program) (ops : Array Oper) (xs : List Flo) (q nh : List Nat) (post : Tl) (Kn : Env → List Deferred → AW → Prop) (Kp : List PanicEntry → Env → List Deferred → AW → Prop) (ρ : Env) (ds : List Deferred) (aw : AW) : Prop :=
  ∃ ρ2, OffL ops nh (putsF xs aw.next ρ) ρ2 ∧ FFl P ops (q ++ nh) ρ2 (allocs xs aw) ∧ LinT P ops Kn Kp post ρ2 ds (allocs xs aw)
section
variable {P : Program} {N : Nat} {ops : Array Oper} {hs : List Nat} {Kn : Env → List Deferred → AW → Prop} {Kp : List PanicEntry → Env → List Deferred → AW → Prop}
  {base : Nat → Prop} {w0 : World} {s0 : Inj} {wS : World} {aw : AW} {ρ : Env} {ds : List Deferred} {xs : List Flo} {p q nh : List Nat} {post : Tl}
theorem lin_grp (hN : dstsOk N ops = true) (hst : ∀ i ∈ hs, i < ops.size ∧ ∃ d, dstOf ops i = some d ∧ ∀ j ∈ hs, dstOf ops j = some d → j = i)
    (hord : ((List.range ops.size).all fun j => ((ops[j]?).map fun (o : Oper) => o.after.all fun e => !Region.binds .any e || decide (e.on < j)).getD true) = true)
    (hlk : ((List.range ops.size).all fun j => ((ops[j]?).map fun (o : Oper) => (looks ops o).all fun t => hs.all fun i => dstOf ops i != some t || anc ops ops.size j i).getD true) = true)
    (hS : Rel P.globals.size base w0 s0 aw wS)
    (hx : ∀ F ∈ xs, ∃ o, ops[F.x]? = some o ∧ o.guard = none ∧ o.dst = some F.d ∧ MakesR P ops o ρ F ∧ (∀ cs b, o.op ≠ .select cs b) ∧ ∀ H ∈ xs, H.d ∉ looks ops o)
    (hxd : (xs.map (·.d)).Nodup) (hxx : (xs.map (·.x)).Nodup) (hxh : ∀ F ∈ xs, ∀ i ∈ hs, i ≠ F.x)
    (hpo : ∀ i ∈ post, i.1 < ops.size ∧ (∀ j ∈ hs, dstOf ops j ≠ dstOf ops i.1 ∧ j ≠ i.1) ∧ (∀ F ∈ xs, i.1 ≠ F.x) ∧ (∀ j ∈ i.2.1, j ∈ hs) ∧ ∀ j ∈ i.2.2, j ∈ hs)
    (hp : ∀ i ∈ p, i ∈ hs) (hqn : ∀ i ∈ q ++ nh, i ∈ hs)
    (hcov : ∀ j, j < ops.size → j ∈ p ∨ (∃ F ∈ xs, j = F.x) ∨ j ∈ nh ∨ ∃ e ∈ post, j = e.1 ∨ j ∈ e.2.2)
    (hch : chainOk ops (post.map (·.1)) = true) (hfirst : ∀ e r, post = e :: r → ∀ F ∈ xs, anc ops ops.size e.1 F.x = true) (hnh : ∀ i ∈ nh, ∀ F ∈ xs, anc ops ops.size i F.x = true)
    (hpq : ∀ i ∈ p, i ∈ q ∨ ∃ F ∈ xs, anc ops ops.size F.x i = true) (hpend : pendOk ops (q ++ nh) post = true) (hnd : (post.map (·.1)).Nodup)
    (hnp : ∀ i ∈ nh, i ∉ p) (hea : ∀ i ∈ p, ∀ o, ops[i]? = some o → ∀ F ∈ xs, Early ops F.d o) (hff : FFl P ops p ρ aw) (hlin : LinG P ops xs q nh post Kn Kp ρ ds aw) :
    ∀ (n : Nat) (l : Array Bool) (A : Apt) (ρ' : Env) (a : Act) (w : World), l.size = ops.size → left l = n →
      (∀ j, j < ops.size → l.getD j true = true → j ∈ p ∨ ∃ F ∈ xs, j = F.x) → (∀ F ∈ xs, l.getD F.x true = true ↔ F ∈ A.map (·.1)) → (∀ c ∈ A, c.1 ∈ xs) →
      (∀ j, listedOf l j = true → j < ops.size → ∀ o, ops[j]? = some o → ∀ e ∈ o.after, Region.binds .any e = true → l.getD e.on false = true) →
      (∀ t, (∀ i ∈ p, l.getD i true = false → dstOf ops i ≠ some t) → ρ' t = ρ t) →
      SG P.globals.size base w0 s0 N A wS.heap.size ρ' ds aw a w →
      wpAny P .any ops (QQ P.globals.size base w0 s0 N Kn Kp) n l a w := by
  have hord0 := hord
  have hlk0 := hlk
  simp only [List.all_eq_true, List.mem_range, decide_eq_true_eq] at hord hlk
  have hxs : ∀ F ∈ xs, F.x < ops.size := fun F hF => by
    obtain ⟨o, ho, _⟩ := hx F hF
    exact (Array.getElem?_eq_some_iff.1 ho).1
  intro n
  have met : ∀ (n : Nat) (l : Array Bool) (A : Apt) (ρ' : Env) (a : Act) (w : World), l.size = ops.size → left l = n →
      (∀ j, j < ops.size → l.getD j true = true → j ∈ p ∨ ∃ F ∈ xs, j = F.x) → (∀ F ∈ xs, F ∈ A.map (·.1)) → (∀ F ∈ xs, l.getD F.x true = true) → (∀ c ∈ A, c.1 ∈ xs) →
      (∀ j, listedOf l j = true → j < ops.size → ∀ o, ops[j]? = some o → ∀ e ∈ o.after, Region.binds .any e = true → l.getD e.on false = true) →
      (∀ t, (∀ i ∈ p, l.getD i true = false → dstOf ops i ≠ some t) → ρ' t = ρ t) →
      SG P.globals.size base w0 s0 N A wS.heap.size ρ' ds aw a w →
      wpAny P .any ops (QQ P.globals.size base w0 s0 N Kn Kp) n l a w := by
    intro n l A ρ' a w hl hf hdone hall hlist hsub hcl hag hsg
    obtain ⟨⟨s1, h1, h2⟩, h3, h4, h5⟩ := hsg
    obtain ⟨ρ2, ho2, hff2, hlin2⟩ := hlin
    have hex : ∀ F ∈ xs, ∃ c, (F, c) ∈ A := fun F hF => by
      obtain ⟨⟨F', c⟩, hc, rfl⟩ := List.mem_map.1 (hall F hF)
      exact ⟨c, hc⟩
    let cb : Flo → Nat := fun F => open Classical in if h : ∃ c, (F, c) ∈ A then Classical.choose h else 0
    have hcb : ∀ F ∈ xs, (F, cb F) ∈ A := fun F hF => by
      have h := hex F hF
      have : cb F = Classical.choose h := dif_pos h
      rw [this]; exact Classical.choose_spec h
    have hinj : ∀ F ∈ xs, ∀ H ∈ xs, cb F = cb H → F = H := fun F hF H hH he => by
      have a1 := hcb F hF
      have a2 := hcb H hH
      rw [← he] at a2
      have key : ∀ (A : Apt), A.cbs.Nodup → (F, cb F) ∈ A → (H, cb F) ∈ A → F = H := by
        intro A
        induction A with
        | nil => intro _ h _; cases h
        | cons z A ih =>
          intro hn b1 b2
          simp only [Apt.cbs, List.map_cons, List.nodup_cons] at hn
          rcases List.mem_cons.1 b1 with b1 | b1
          · rcases List.mem_cons.1 b2 with b2 | b2
            · rw [← b1] at b2; injection b2 with b2; exact b2.symm
            · exact absurd (List.mem_map.2 ⟨_, b2, by rw [← b1]⟩) hn.1
          · rcases List.mem_cons.1 b2 with b2 | b2
            · exact absurd (List.mem_map.2 ⟨_, b1, by rw [← b2]⟩) hn.1
            · exact ih hn.2 b1 b2
      exact key A h5 a1 a2
    have hxn : xs.Nodup := by
      have := hxd
      rw [List.nodup_iff_pairwise_ne, List.pairwise_map] at this
      rw [List.nodup_iff_pairwise_ne]
      exact this.imp fun h e => h (by rw [e])
    have hcn : (xs.map cb).Nodup := by
      rw [List.nodup_iff_pairwise_ne, List.pairwise_map]
      rw [List.nodup_iff_pairwise_ne] at hxn
      exact hxn.imp_of_mem fun hF hH hne he => hne (hinj _ hF _ hH he)
    have hsz : a.tmps.size = N := by have := h2.size; rwa [hideA_size] at this
    obtain ⟨s2, k1, k2, k3⟩ := meet_all (a := a) cb xs s1 ρ' aw h2.rel (fun t ht => by
      have ht' : t ∉ A.ds := fun hm => by
        obtain ⟨c, hc, rfl⟩ := List.mem_map.1 hm
        exact ht (List.mem_map.2 ⟨c.1, hsub c hc, rfl⟩)
      have := h2.env t
      rw [hideA_getD, if_neg ht'] at this
      unfold hide at this
      rwa [if_neg ht'] at this) hxd hcn (fun F hF => by
      obtain ⟨q1, q2, q3, q4⟩ := h4 _ (hcb F hF)
      obtain ⟨o, _, _, _, hm, _⟩ := hx F hF
      refine ⟨q1, q2, q4, hm.pl, hm.vr, fun b B e hb he => ?_⟩
      obtain ⟨e0, cs, fz, g1, _⟩ := hS.blk b B hb
      have g2 := h1 b e0 g1
      rw [he] at g2; obtain rfl := Option.some.inj g2
      have := hS.cbLt hb g1
      have q3' : wS.heap.size ≤ cb F := q3
      omega)
    have hst2 : St P.globals.size base w0 s2 (putsF xs aw.next ρ') N ds (allocs xs aw) a w := by
      have hd := h2.dfr
      have hm := h2.mrk
      have hn := h2.nd
      rw [hideA_defers] at hd hm hn
      exact ⟨k2, k3, hsz, hd.mono k1, hm, hn⟩
    have hunl : ∀ i ∈ p, l.getD i true = false → i ∈ q := fun i hi hx' => by
      rcases hpq i hi with h | ⟨F, hF, h⟩
      · exact h
      · have hl' := hlist F hF
        have := closed_anc (ops := ops) (l := l) hcl ops.size (j := F.x) (i := i) (fun o ho e he hb => hcl F.x (by unfold listedOf; exact hl') (hxs F hF) o ho e he hb) h
        rw [getD_true_false (by rw [hl]; exact (hst i (hp i hi)).1), this] at hx'; cases hx'
    have hmiss : ∀ j, j < ops.size → j ∉ p → (∀ F ∈ xs, j ≠ F.x) → l.getD j true = false := fun j hj h1 h2 => by
      cases hq : l.getD j true with
      | false => rfl
      | true =>
        rcases hdone j hj hq with h | ⟨F, hF, h⟩
        · exact absurd h h1
        · exact absurd h (h2 F hF)
    have hpns : ∀ e ∈ post, e.1 ∉ p := fun e he hm => (hpo e he).2.1 e.1 (hp _ hm) |>.2 rfl
    have ht : TailAny P N ops Kn Kp n l (putsF xs aw.next ρ') ds (allocs xs aw) := by
      refine lin_tail hN hs hst hord0 hlk0 n l _ ρ2 ds _ (q ++ nh) post hl hf ?_ ?_ hcl hqn ?_ hch hpend hnd hff2 hlin2
      · intro j hj hx'
        rcases hcov j hj with h | ⟨F, hF, rfl⟩ | h | h
        · exact .inl (List.mem_append.2 (.inl (hunl j h hx')))
        · rw [hlist F hF] at hx'; cases hx'
        · exact .inl (List.mem_append.2 (.inr h))
        · exact .inr h
      · intro e he
        obtain ⟨b1, b2, b3, b4, b5⟩ := hpo e he
        have he0 := hmiss e.1 b1 (hpns e he) b3
        refine ⟨b1, he0, b2, b4, fun j hj => ⟨b5 j hj, ?_⟩⟩
        cases hq : l.getD j true with
        | false => rfl
        | true =>
          have key : ∀ (tl : Tl) (pp : List Nat), pendOk ops pp tl = true → e ∈ tl → anc ops ops.size j e.1 = true := by
            intro tl
            induction tl with
            | nil => intro _ _ h; cases h
            | cons z r ih =>
              intro pp hpd he
              obtain ⟨z1, z2, z3⟩ := z
              simp only [pendOk, Bool.and_eq_true, List.all_eq_true] at hpd
              rcases List.mem_cons.1 he with rfl | he
              · exact hpd.1.2 j hj
              · exact ih _ hpd.2 he
          have hjs := (hst j (b5 j hj)).1
          have := closed_anc (ops := ops) (l := l) hcl ops.size (j := j) (i := e.1) (fun o ho e' he' hb => hcl j (by unfold listedOf; exact hq) hjs o ho e' he' hb) (key post _ hpend he)
          rw [getD_true_false (by rw [hl]; exact b1), this] at he0; cases he0
      · intro t ht
        have hnhl : ∀ j ∈ nh, l.getD j true = false := fun j hj =>
          hmiss j (hst j (hqn j (List.mem_append.2 (.inr hj)))).1 (hnp j hj) fun F hF => hxh F hF j (hqn j (List.mem_append.2 (.inr hj)))
        have e2 : ρ2 t = putsF xs aw.next ρ t := ho2 t fun j hj => ht j (List.mem_append.2 (.inr hj)) (hnhl j hj)
        rw [e2]
        refine putsF_congr xs aw.next ρ' ρ (.inr (hag t fun j hj hx' => ht j (List.mem_append.2 (.inl (hunl j hj hx'))) hx'))
    exact wpAny_mono' (fun e a w => QQ.mono (Inj.le_trans h1 k1)) (fun a w => QQ.not_outgrown a w) n _ _ _ (tail_sound n l _ ds _ ht base w0 s2 a w hst2)
  induction n with
  | zero =>
    intro l A ρ' a w hl hf hdone hmade hsub hcl hag hsg
    have hall : ∀ j, j < ops.size → l.getD j true = true := by
      intro j hj
      unfold left at hf
      rw [List.countP_eq_zero] at hf
      have := hf l[j] (by simp)
      simp only [Array.getD, hl, hj, dif_pos]
      simpa using this
    exact met 0 l A ρ' a w hl hf hdone (fun F hF => (hmade F hF).1 (hall _ (hxs F hF))) (fun F hF => hall _ (hxs F hF)) hsub hcl hag hsg
  | succ n ih =>
    intro l A ρ' a w hl hf hdone hmade hsub hcl hag hsg
    rcases Classical.em (∀ F ∈ xs, F ∈ A.map (·.1)) with hall | hnot
    · exact met (n + 1) l A ρ' a w hl hf hdone hall (fun F hF => (hmade F hF).2 (hall F hF)) hsub hcl hag hsg
    obtain ⟨F0, hF0, hF0A⟩ : ∃ F ∈ xs, F ∉ A.map (·.1) := by
      apply Classical.byContradiction
      intro h
      apply hnot
      intro F hF
      apply Classical.byContradiction
      intro h2
      exact h ⟨F, hF, h2⟩
    have hF0l : l.getD F0.x true = false := by
      cases hq : l.getD F0.x true with
      | false => rfl
      | true => exact absurd ((hmade F0 hF0).1 hq) hF0A
    have hpre : ∀ j o, ops[j]? = some o → ∀ e ∈ o.after, Region.binds .any e = true → e.on < j := by
      intro j o ho e he hb
      have hlt : j < ops.size := (Array.getElem?_eq_some_iff.1 ho).1
      have := hord j hlt
      rw [ho] at this
      simp only [Option.map_some, Option.getD_some, Array.all_eq_true] at this
      obtain ⟨q, hq, rfl⟩ := Array.getElem_of_mem he
      have := this q hq
      simp only [hb, Bool.not_true, Bool.false_or, decide_eq_true_eq] at this
      exact this
    have hanc : ∀ i, i ∈ Region.ready .any ops l → ∀ j, anc ops ops.size i j = true → l.getD j false = true := by
      intro i hi j hj
      obtain ⟨_, _, g3⟩ := ready_spec hi
      exact closed_anc hcl ops.size g3 hj
    have hnext : ∀ i, i ∈ Region.ready .any ops l → (∀ j, listedOf (l.setIfInBounds i true) j = true → j < ops.size → ∀ o, ops[j]? = some o → ∀ e ∈ o.after, Region.binds .any e = true → (l.setIfInBounds i true).getD e.on false = true) := by
      intro i hi j hj hjs o ho e he hb
      obtain ⟨g1, g2, g3⟩ := ready_spec hi
      have up : ∀ x, l.getD x false = true → (l.setIfInBounds i true).getD x false = true := by
        intro x hx
        rw [getD_set]; split
        · rfl
        · exact hx
      unfold listedOf at hj
      rw [getD_set] at hj
      split at hj
      · rename_i hij
        obtain ⟨rfl, _⟩ := hij
        exact up _ (g3 o ho e he hb)
      · exact up _ (hcl j hj hjs o ho e he hb)
    have hlook : ∀ i o, i ∈ Region.ready .any ops l → ops[i]? = some o → Agr ops o ρ ρ' := by
      intro i o hi ho t ht
      obtain ⟨g1, _, _⟩ := ready_spec hi
      refine hag t fun j hj hx hdj => ?_
      have := hlk i g1
      rw [ho] at this
      simp only [Option.map_some, Option.getD_some, List.all_eq_true, Bool.or_eq_true, bne_iff_ne, ne_eq] at this
      rcases this t ht j (hp j hj) with h | h
      · exact h hdj
      · have := hanc i hi j h
        rw [getD_true_false (by rw [hl]; exact (hst j (hp j hj)).1), this] at hx; cases hx
    have hsz : ∀ i, (l.setIfInBounds i true).size = ops.size := fun i => by simp [hl]
    have hleft : ∀ i, i ∈ Region.ready .any ops l → left (l.setIfInBounds i true) = n := by
      intro i hi
      obtain ⟨_, g2, _⟩ := ready_spec hi
      have := left_set l i g2
      omega
    have hkeep : ∀ i j, (l.setIfInBounds i true).getD j true = false → i ≠ j ∧ l.getD j true = false := by
      intro i j hx
      rw [getD_set] at hx
      split at hx
      · cases hx
      · rename_i hne
        refine ⟨fun h => ?_, hx⟩
        subst h
        have : ¬ i < l.size := fun h => hne ⟨rfl, h⟩
        simp [Array.getD, this] at hx
    have hput : ∀ i j, i ≠ j → (l.setIfInBounds i true).getD j true = l.getD j true := by
      intro i j hne
      rw [getD_set, if_neg (fun h => hne h.1)]
    refine ⟨fun hr => ?_, fun i hi => ?_⟩
    · exfalso
      have hfirst : ∃ j, j < ops.size ∧ l.getD j true = false ∧ ∀ i, i < j → l.getD i true = true := by
        have hex : ∃ j, j < ops.size ∧ l.getD j true = false := ⟨F0.x, hxs F0 hF0, hF0l⟩
        obtain ⟨j, hj, hx⟩ := hex
        induction j using Nat.strongRecOn with
        | _ j ihj =>
          by_cases h : ∀ i, i < j → l.getD i true = true
          · exact ⟨j, hj, hx, h⟩
          · have : ∃ i, i < j ∧ l.getD i true = false := by
              apply Classical.byContradiction
              intro h'
              apply h
              intro i hi
              cases hy : l.getD i true with
              | true => rfl
              | false => exact absurd ⟨i, hi, hy⟩ h'
            obtain ⟨i, hi, hy⟩ := this
            exact ihj i hi (by omega) hy
      obtain ⟨j, hj, hx, hmin⟩ := hfirst
      have hready : j ∈ Region.ready .any ops l := ready_of hj hx (fun o ho e he hb => by
        have hlt := hpre j o ho e he hb
        have := hmin _ hlt
        rw [getD_true_false (by omega)] at this
        exact this)
      rw [hr] at hready; simp at hready
    · obtain ⟨g1, g2, g3⟩ := ready_spec hi
      have ho : ops[i]? = some ops[i] := Array.getElem?_eq_getElem g1
      have hag' := hlook i _ hi ho
      have away : anc ops ops.size i F0.x = true → False := fun h => by
        have := hanc i hi _ h
        rw [getD_true_false (by rw [hl]; exact hxs F0 hF0), this] at hF0l; cases hF0l
      rcases hcov i g1 with him | ⟨F, hF, hiF⟩ | hin | ⟨e, he, hie⟩
      · -- one that reads
        obtain ⟨_, d', hdi, hdu⟩ := hst i (hp i him)
        have hod : (ops[i]).dst = some d' := by simpa [dstOf, ho] using hdi
        have hho := hff i him _ ho d' hod
        refine hsg.read hS hN ho (fun c hc => hea i him _ ho c.1 (hsub c hc)) (fun ρ2 hρ2 => hho ρ2 fun t' ht' => (hρ2 t' ht').trans (hag' t' ht')) fun a' w' hsg' => ?_
        refine ih _ A _ a' w' (hsz i) (hleft i hi) ?_ ?_ hsub (hnext i hi) ?_ hsg'
        · intro j hj hx
          by_cases hji : i = j
          · subst hji; exact .inl him
          · rw [hput i j hji] at hx; exact hdone j hj hx
        · intro F hF
          rw [hput i F.x (hxh F hF i (hp i him))]
          exact hmade F hF
        · intro t' ht
          rw [hod, put_at]
          by_cases htd : t' = d'
          · rw [if_pos htd, htd]
          · rw [if_neg htd]
            refine hag t' fun j hj hx => ?_
            by_cases hji : i = j
            · subst hji
              rw [hdi]
              exact fun h => htd (by injection h with h; exact h.symm)
            · exact ht j hj (by rw [hput i j hji]; exact hx)
      · -- one is made
        subst hiF
        obtain ⟨o, ho', hg, hd, hm, hsel, hlo⟩ := hx F hF
        have hFA : F ∉ A.map (·.1) := fun hm => by rw [(hmade F hF).2 hm] at g2; cases g2
        have hoo : o = ops[F.x] := by rw [ho] at ho'; exact (Option.some.inj ho').symm
        have hag'' : Agr ops o ρ ρ' := by rw [hoo]; exact hag'
        have hm' : MakesR P ops o ρ' F := ⟨hm.pl, fun ρ2 h2 => hm.run ρ2 fun t ht => (h2 t ht).trans (hag'' t ht), hm.vr⟩
        have hdN : F.d < N := dstsOk_get hN (j := F.x) (by simp [ho', hd])
        refine hsg.make ho' hg hd hdN hm' (fun hmem => ?_) hsel (fun d hdm => ?_) fun a' w' cb hsg' => ?_
        · obtain ⟨c, hc, hcd⟩ := List.mem_map.1 hmem
          have : c.1 = F := by
            have hu := hxd
            have key : ∀ (xs : List Flo), (xs.map (·.d)).Nodup → c.1 ∈ xs → F ∈ xs → c.1 = F := by
              intro xs
              induction xs with
              | nil => intro _ h _; cases h
              | cons z r ih =>
                intro hn b1 b2
                simp only [List.map_cons, List.nodup_cons] at hn
                rcases List.mem_cons.1 b1 with b1 | b1
                · rcases List.mem_cons.1 b2 with b2 | b2
                  · rw [b1, b2]
                  · exact absurd (List.mem_map.2 ⟨F, b2, by rw [← b1]; exact hcd.symm⟩) hn.1
                · rcases List.mem_cons.1 b2 with b2 | b2
                  · exact absurd (List.mem_map.2 ⟨c.1, b1, by rw [← b2]; exact hcd⟩) hn.1
                  · exact ih hn.2 b1 b2
            exact key xs hu (hsub c hc) hF
          exact hFA (List.mem_map.2 ⟨c, hc, this⟩)
        · obtain ⟨c, hc, rfl⟩ := List.mem_map.1 hdm
          exact hlo c.1 (hsub c hc)
        · refine ih _ ((F, cb) :: A) ρ' a' w' (hsz F.x) (hleft F.x hi) ?_ ?_ ?_ (hnext F.x hi) ?_ hsg'
          · intro j hj hx
            by_cases hji : F.x = j
            · exact .inr ⟨F, hF, hji.symm⟩
            · rw [hput F.x j hji] at hx; exact hdone j hj hx
          · intro H hH
            by_cases hHF : H = F
            · subst hHF
              refine ⟨fun _ => by simp, fun _ => ?_⟩
              rw [getD_set, if_pos ⟨rfl, by rw [hl]; exact g1⟩]
            · have hne : F.x ≠ H.x := fun h => hHF (by
                have key : ∀ (xs : List Flo), (xs.map (·.x)).Nodup → H ∈ xs → F ∈ xs → H = F := by
                  intro xs
                  induction xs with
                  | nil => intro _ h _; cases h
                  | cons z r ih =>
                    intro hn b1 b2
                    simp only [List.map_cons, List.nodup_cons] at hn
                    rcases List.mem_cons.1 b1 with b1 | b1
                    · rcases List.mem_cons.1 b2 with b2 | b2
                      · rw [b1, b2]
                      · exact absurd (List.mem_map.2 ⟨F, b2, by rw [← b1]; exact h⟩) hn.1
                    · rcases List.mem_cons.1 b2 with b2 | b2
                      · exact absurd (List.mem_map.2 ⟨H, b1, by rw [← b2]; exact h.symm⟩) hn.1
                      · exact ih hn.2 b1 b2
                exact key xs hxx hH hF)
              rw [hput F.x H.x hne, hmade H hH]
              simp only [List.map_cons, List.mem_cons]
              exact ⟨fun h => .inr h, fun h => h.resolve_left hHF⟩
          · intro c hc
            rcases List.mem_cons.1 hc with rfl | hc
            · exact hF
            · exact hsub c hc
          · intro t' ht
            refine hag t' fun j hj hx => ht j hj ?_
            rw [hput F.x j (fun h => hxh F hF j (hp j hj) h.symm)]
            exact hx
      · exact (away (hnh i hin F0 hF0)).elim
      · exfalso
        obtain ⟨e0, r0, hpr⟩ : ∃ e0 r0, post = e0 :: r0 := by
          cases post with
          | nil => cases he
          | cons z r => exact ⟨z, r, rfl⟩
        have hstop : ∀ z ∈ post, l.getD z.1 true = false := fun z hz => by
          obtain ⟨b1, b2, b3, _⟩ := hpo z hz
          cases hq : l.getD z.1 true with
          | false => rfl
          | true =>
            rcases hdone z.1 b1 hq with h | ⟨F, hF, h⟩
            · exact absurd rfl (b2 z.1 (hp _ h)).2
            · exact absurd h (b3 F hF)
        rcases hie with rfl | hie
        · have chain : ∀ (m : Tl) (b : Nat), chainOk ops (b :: m.map (·.1)) = true → (∀ y ∈ b :: m.map (·.1), y < ops.size ∧ l.getD y true = false) → ∀ y ∈ m, e.1 ≠ y.1 := by
            intro m
            induction m with
            | nil => intro _ _ _ y hy; simp at hy
            | cons c m ihm =>
              intro b hc hall y hy
              simp only [List.map_cons, chainOk, Bool.and_eq_true] at hc
              rcases List.mem_cons.1 hy with rfl | hy
              · intro h
                have h1 := hanc e.1 hi b (by rw [h]; exact hc.1)
                obtain ⟨h2, h3⟩ := hall b (by simp)
                rw [getD_true_false (by omega), h1] at h3; cases h3
              · exact ihm c.1 hc.2 (fun z hz => hall z (by simp at hz ⊢; exact .inr hz)) y hy
          rw [hpr] at he hch
          rcases List.mem_cons.1 he with rfl | he
          · exact away (hfirst e r0 hpr F0 hF0)
          · refine chain r0 e0.1 (by simpa using hch) (fun y hy => ?_) e he rfl
            rcases List.mem_cons.1 hy with rfl | hy
            · have : e0 ∈ post := by rw [hpr]; exact List.mem_cons_self ..
              exact ⟨(hpo e0 this).1, hstop e0 this⟩
            · obtain ⟨z, hz, rfl⟩ := List.mem_map.1 hy
              have : z ∈ post := by rw [hpr]; exact List.mem_cons_of_mem _ hz
              exact ⟨(hpo z this).1, hstop z this⟩
        · have key : ∀ (tl : Tl) (pp : List Nat), pendOk ops pp tl = true → e ∈ tl → anc ops ops.size i e.1 = true := by
            intro tl
            induction tl with
            | nil => intro _ _ h; cases h
            | cons z r ih =>
              intro pp hpd he
              obtain ⟨z1, z2, z3⟩ := z
              simp only [pendOk, Bool.and_eq_true, List.all_eq_true] at hpd
              rcases List.mem_cons.1 he with rfl | he
              · exact hpd.1.2 i hie
              · exact ih _ hpd.2 he
          have h1 := hanc i hi _ (key post _ hpend he)
          have h2 := hstop e he
          rw [getD_true_false (by rw [hl]; exact (hpo e he).1), h1] at h2; cases h2
end
def linGOk (ops : Array Oper) (gx : List (Nat × Tmp)) (p q nh : List Nat) (post : Tl) : Bool :=
  ((p ++ (q ++ nh) ++ post.flatMap fun e => e.2.1 ++ e.2.2).all fun i => decide (i < ops.size) && (dstOf ops i).isSome && ((p ++ (q ++ nh) ++ post.flatMap fun e => e.2.1 ++ e.2.2).all fun j => i == j || dstOf ops i != dstOf ops j) &&
    (post.all fun e => dstOf ops i != dstOf ops e.1 && i != e.1) && (gx.all fun g => i != g.1)) &&
  (post.all fun e => decide (e.1 < ops.size) && gx.all fun g => e.1 != g.1) &&
  ((List.range ops.size).all fun j => p.contains j || (gx.any fun g => j == g.1) || nh.contains j || post.any fun e => j == e.1 || e.2.2.contains j) &&
  ((List.range ops.size).all fun j => ((ops[j]?).map fun (o : Oper) => o.after.all fun e => !Region.binds .any e || decide (e.on < j)).getD true) &&
  ((List.range ops.size).all fun j => ((ops[j]?).map fun (o : Oper) => (looks ops o).all fun t => (p ++ (q ++ nh) ++ post.flatMap fun e => e.2.1 ++ e.2.2).all fun i => dstOf ops i != some t || anc ops ops.size j i).getD true) &&
  chainOk ops (post.map (·.1)) && (match post with | [] => true | e :: _ => gx.all fun g => anc ops ops.size e.1 g.1) && (nh.all fun i => gx.all fun g => anc ops ops.size i g.1) &&
  (p.all fun i => q.contains i || gx.any fun g => anc ops ops.size g.1 i) && pendOk ops (q ++ nh) post && decide (post.map (·.1)).Nodup && (nh.all fun i => !p.contains i) &&
  (p.all fun i => ((ops[i]?).map fun (o : Oper) => notSel o.op && gx.all fun g => !(looks ops o).contains g.2 && o.dst != some g.2).getD true) &&
  (gx.all fun g => ((ops[g.1]?).map fun (o : Oper) => notSel o.op && o.dst == some g.2 && o.guard.isNone && gx.all fun h => !(looks ops o).contains h.2).getD false) &&
  decide (gx.map (·.2)).Nodup && decide (gx.map (·.1)).Nodup
section
variable {P : Program} {N : Nat} {ops : Array Oper} {k : List Item} {ρ : Env} {ds : List Deferred} {aw : AW} {xs : List Flo} {p q nh : List Nat} {post : Tl}
theorem ago_drawG {id : Nat} {R : ADone → Env → List Deferred → AW → Prop} {ρ1 : Env} (hm : P.follows .mixedOrders = true) (hN : dstsOk N ops = true) (hok : linGOk ops (xs.map fun F => (F.x, F.d)) p q nh post = true)
    (hmk : ∀ F ∈ xs, ∀ o, ops[F.x]? = some o → MakesR P ops o ρ1 F) (hoff : OffL ops p ρ ρ1) (hop : FFl P ops p ρ1 aw)
    (hk : LinG P ops xs q nh post (fun ρ' ds' aw' => AGo P N k ρ' ds' aw' R) (fun ch ρ' ds' aw' => R (.panic ch) ρ' ds' aw') ρ1 ds aw) :
    AGo P N (.code (.region id ops true) :: k) ρ ds aw R := by
  simp only [linGOk, Bool.and_eq_true] at hok
  obtain ⟨⟨⟨⟨⟨⟨⟨⟨⟨⟨⟨⟨⟨⟨⟨h1, h2⟩, h3⟩, h4⟩, h5⟩, h6⟩, h7⟩, h8⟩, h9⟩, h10⟩, h11⟩, h12⟩, h13⟩, h14⟩, h15⟩, h16⟩ := hok
  refine ago_of_wp fun base w0 s a w hst => wp_region_any hm ?_
  simp only [List.all_eq_true, Bool.and_eq_true, bne_iff_ne, ne_eq, Bool.or_eq_true, beq_iff_eq, decide_eq_true_eq, List.mem_range, List.any_eq_true, List.all_map, List.any_map, Function.comp, List.map_map] at h1 h2 h3 h8 h9 h11 h12 h13 h14 h15 h16
  have hmask : ∀ j, (Array.replicate ops.size false).getD j true = if j < ops.size then false else true := by
    intro j
    simp only [Array.getD_eq_getD_getElem?]
    by_cases hj : j < ops.size
    · simp [hj]
    · simp [hj]
  have h0 : left (Array.replicate ops.size false) = ops.size := by
    unfold left
    rw [Array.toList_replicate, List.countP_replicate]
    simp
  have hst' : St P.globals.size base w0 s ρ N ds aw a w.drew := ⟨hst.rel.drew, hst.env, hst.size, hst.dfr, hst.mrk, hst.nd⟩
  have hin : ∀ i, i ∈ p ∨ i ∈ q ++ nh ∨ (∃ e ∈ post, i ∈ e.2.1 ∨ i ∈ e.2.2) → i ∈ p ++ (q ++ nh) ++ post.flatMap fun e => e.2.1 ++ e.2.2 := by
    intro i h
    rcases h with h | h | ⟨e, he, h⟩
    · exact List.mem_append.2 (.inl (List.mem_append.2 (.inl h)))
    · exact List.mem_append.2 (.inl (List.mem_append.2 (.inr h)))
    · exact List.mem_append.2 (.inr (List.mem_flatMap.2 ⟨e, he, List.mem_append.2 h⟩))
  have hgx : ∀ F ∈ xs, ∃ o, ops[F.x]? = some o ∧ notSel o.op = true ∧ o.dst = some F.d ∧ o.guard = none ∧ ∀ H ∈ xs, H.d ∉ looks ops o := by
    intro F hF
    have := h14 F hF
    cases ho : ops[F.x]? with
    | none => rw [ho] at this; simp at this
    | some o =>
      rw [ho] at this
      simp only [Option.map_some, Option.getD_some, Bool.and_eq_true, beq_iff_eq, List.all_eq_true, Bool.not_eq_true', Option.isNone_iff_eq_none, List.all_map, Function.comp] at this
      obtain ⟨⟨⟨g1, g2⟩, g3⟩, g4⟩ := this
      exact ⟨o, rfl, g1, g2, g3, fun H hH hm => by have := g4 H hH; simp [hm] at this⟩
  have sel : ∀ {o : Oper}, notSel o.op = true → ∀ cs b, o.op ≠ .select cs b := fun h cs b he => by rw [he] at h; cases h
  refine lin_grp (hs := p ++ (q ++ nh) ++ post.flatMap fun e => e.2.1 ++ e.2.2) (xs := xs) (p := p) (q := q) (nh := nh) (post := post) (ρ := ρ1) hN ?_ h4 h5 hst'.rel ?_ h15 h16 ?_ ?_ (fun i hi => hin i (.inl hi)) (fun i hi => hin i (.inr (.inl hi))) ?_ h6 ?_ (fun i hi F hF => h8 i hi F hF) ?_ h10 h11 ?_ ?_ hop hk
    ops.size _ [] ρ a w.drew (by simp) h0 ?_ ?_ (fun c hc => by cases hc) ?_ ?_ ⟨⟨s, Inj.le_refl s, ?_⟩, Nat.le_refl _, (fun p hp => by cases hp), List.nodup_nil⟩
  · intro i hi
    obtain ⟨⟨⟨⟨b1, b2⟩, b3⟩, b4⟩, b5⟩ := h1 i hi
    obtain ⟨d, hd⟩ := Option.isSome_iff_exists.1 b2
    exact ⟨b1, d, hd, fun j hj hjd => ((b3 j hj).resolve_right (fun h => h (hd.trans hjd.symm))).symm⟩
  · intro F hF
    obtain ⟨o, g1, g2, g3, g4, g5⟩ := hgx F hF
    exact ⟨o, g1, g4, g3, hmk F hF o g1, sel g2, g5⟩
  · intro F hF i hi
    exact (h1 i hi).2 F hF
  · intro e he
    obtain ⟨b1, b2⟩ := h2 e he
    refine ⟨b1, fun j hj => (h1 j hj).1.2 e he, fun F hF => b2 F hF, fun j hj => hin j (.inr (.inr ⟨e, he, .inl hj⟩)), fun j hj => hin j (.inr (.inr ⟨e, he, .inr hj⟩))⟩
  · intro j hj
    rcases h3 j hj with ((h | ⟨F, hF, h⟩) | h) | ⟨e, he, h⟩
    · exact .inl (by simpa using h)
    · exact .inr (.inl ⟨F, hF, h⟩)
    · exact .inr (.inr (.inl (by simpa using h)))
    · refine .inr (.inr (.inr ⟨e, he, ?_⟩))
      rcases h with h | h
      · exact .inl h
      · exact .inr (by simpa using h)
  · intro e r hpr F hF
    subst hpr
    simp only [List.all_eq_true, List.all_map, Function.comp] at h7
    exact h7 F hF
  · intro i hi
    rcases h9 i hi with h | ⟨F, hF, h⟩
    · exact .inl (by simpa using h)
    · exact .inr ⟨F, hF, h⟩
  · intro i hi hm
    have := h12 i hi
    simp [hm] at this
  · intro i hi o ho F hF
    have := h13 i hi
    rw [ho] at this
    simp only [Option.map_some, Option.getD_some, Bool.and_eq_true, List.all_eq_true, Bool.not_eq_true', bne_iff_ne, ne_eq, List.all_map, Function.comp] at this
    obtain ⟨g1, g2⟩ := this
    obtain ⟨g2, g3⟩ := g2 F hF
    exact ⟨fun h => by simp [h] at g2, g3, sel g1⟩
  · intro j hj hx
    rw [hmask, if_pos hj] at hx; cases hx
  · intro F hF
    obtain ⟨o, g1, _⟩ := hgx F hF
    rw [hmask, if_pos (Array.getElem?_eq_some_iff.1 g1).1]
    exact ⟨fun h => (by cases h), fun h => (by cases h)⟩
  · intro j hj hjs
    unfold listedOf at hj
    rw [hmask, if_pos hjs] at hj; cases hj
  · intro t ht
    refine (hoff t fun j hj => ht j hj ?_).symm
    have := (h1 j (hin j (.inl hj))).1.1.1.1
    rw [hmask, if_pos this]
  · exact hst'
end
end Go.Am

set_option linter.unusedSimpArgs false
set_option linter.unusedVariables false
set_option linter.unusedSectionVars false
namespace Go.Ri
open Go Go.Am Go.RowKit
variable [SymE] [FT] [FTok]
def isFl (ops : Array Oper) (i : Nat) : Option Tmp := match ops[i]? with
  | some o => (match o.dst, o.guard, o.op with
    | some d, none, .alloc _ => some d
    | some d, none, .makeSlice _ _ _ => some d
    | _, _, _ => none)
  | none => none
noncomputable def cutG (ops : Array Oper) : Tl → Option (List (Nat × Tmp) × List Nat × List Nat × Tl) := List.rec (motive := fun _ => Option (List (Nat × Tmp) × List Nat × List Nat × Tl)) none
  (fun e r ih => match isFl ops e.1 with
    | none => none
    | some d => (match ih with
      | some (g, q, nh, post) => (match e.2.2 with
        | [] => some ((e.1, d) :: g, q, nh, post)
        | _ => none)
      | none => some ([(e.1, d)], e.2.1, e.2.2, r)))
noncomputable def floOf (P : Program) (ρ : Env) (o : Oper) (i : Nat) (d : Tmp) : Option Flo := match o.op with
  | .alloc t => (match (P.info? t).bind (·.zero) with
    | some z => bif plains (cellsL z) then some ⟨i, d, cellsL z, t, 0, fun b => .pointer (some ⟨b, 0, none⟩)⟩ else none
    | none => none)
  | .makeSlice t x y => (match okv P.globals.size ρ x with
    | some (.int _ (.ofNat m)) => (match okv P.globals.size ρ y with
      | some (.int _ (.ofNat cp)) => (match P.underlying t with
        | some (.slice el) => (match (P.info? el).map (·.size) with
          | none => none
          | some size => (match (P.info? el).map (·.bytes) with
            | none => none
            | some bytes => (match (P.info? el).bind (·.zero) with
              | none => none
              | some z => bif plains (cellsL z) && (Nat.ble m cp && (Nat.blt 0 size && (Nat.beq (cellsL z).length size && (Nat.ble (bytes * cp) 140737488355328 && Nat.blt cp 1152921504606846976)))) then
                  some ⟨i, d, zeros (cellsL z) cp, el, size, fun b => .slice (some ⟨b, 0, none⟩) m cp⟩ else none)))
        | _ => none)
      | _ => none)
    | _ => none)
  | _ => none
theorem floOf_xd {P : Program} {ρ : Env} {o : Oper} {i : Nat} {d : Tmp} {F : Flo} (h : floOf P ρ o i d = some F) : F.x = i ∧ F.d = d := by
  unfold floOf at h
  split at h
  · split at h
    · rw [cond_some] at h
      obtain ⟨_, h⟩ := h
      simp only [Option.some.injEq] at h; subst h; exact ⟨rfl, rfl⟩
    · cases h
  · (repeat' split at h) <;> first | cases h | (rw [cond_some] at h; obtain ⟨_, h⟩ := h; simp only [Option.some.injEq] at h; subst h; exact ⟨rfl, rfl⟩)
  · cases h
theorem agr_opd {P : Program} {ops : Array Oper} {o : Oper} {ρ ρ' : Env} (hag : Agr ops o ρ ρ') {x : Operand} (hx : x ∈ o.op.operands.toList) : ρ'.eval x = ρ.eval x := by
  cases x with
  | tmp t =>
    refine hag t ?_
    unfold looks
    refine List.mem_append.2 (.inl (List.mem_filterMap.2 ⟨_, hx, rfl⟩))
  | const v => rfl
  | global g => rfl
  | func f => rfl
theorem floOf_spec {P : Program} {ops : Array Oper} {ρ : Env} {o : Oper} {i : Nat} {d : Tmp} {F : Flo} (h : floOf P ρ o i d = some F) : MakesR P ops o ρ F := by
  unfold floOf at h
  split at h
  · rename_i t hop
    split at h
    · rename_i z hz
      rw [cond_some] at h
      obtain ⟨hp, h⟩ := h
      simp only [Option.some.injEq] at h; subst h
      have hcl : cellsL z = z.cells.toList := cellsL_eq z
      refine ⟨hp, fun ρ' _ s f w _ => ?_, fun s b e he h0 => ?_⟩
      · simp only [execOp, hop, Instr.alloc, Sem.run_bind, run_zeroValue' hz, Result.andThen_ok, newVar, run_newRow, Sem.run_pure, hcl]
      · have := VR.ptr (s := s) (o := 0) he
        rw [h0] at this
        simpa using this
    · cases h
  · rename_i t x y hop
    split at h
    · rename_i k m hx
      split at h
      · rename_i k' cp hy
        split at h
        · rename_i el hu
          split at h
          · cases h
          rename_i size hs
          split at h
          · cases h
          rename_i bytes hby
          split at h
          · cases h
          rename_i z hz0
          rw [cond_some] at h
          obtain ⟨hp, h⟩ := h
          simp only [Bool.and_eq_true, Nat.ble_eq, Nat.blt_eq, Nat.beq_eq] at hp
          obtain ⟨p1, hm, hs0, p4, p5, p6⟩ := hp
          simp only [Option.some.injEq] at h; subst h
          obtain ⟨x1, x2⟩ := okv_spec hx
          obtain ⟨y1, y2⟩ := okv_spec hy
          have hzs : z.cells.size = size := by rw [← p4, cellsL_eq]; simp
          have hb : bytes * cp ≤ 2 ^ 47 := Nat.le_trans p5 (by decide)
          have hcp : cp < 2 ^ 60 := Nat.lt_of_lt_of_le p6 (by decide)
          refine ⟨zeros_plain p1 cp, fun ρ' hag s f w hf => ?_, fun s b e he h0 => ?_⟩
          · have e1 := hf x x1
            rw [agr_opd (P := P) hag (by rw [hop]; simp [Op.operands]), x2] at e1
            have e2 := hf y y1
            rw [agr_opd (P := P) hag (by rw [hop]; simp [Op.operands]), y2] at e2
            obtain ⟨inf, hinf⟩ : ∃ inf, P.info? el = some inf := by
              cases h : P.info? el with
              | none => simp [h] at hs
              | some q => exact ⟨q, rfl⟩
            have hbb : inf.bytes = bytes := by simpa [hinf] using hby
            have w1 : IntKind.i64.wrap (m : Int) = m := IntWalk.i64_in _ (by omega)
            have w2 : IntKind.i64.wrap (cp : Int) = cp := IntWalk.i64_in _ (by omega)
            have hb' : ((inf.bytes : Int) * (cp : Int)) ≤ 2 ^ 47 := by rw [hbb]; exact_mod_cast hb
            have hzz : (Array.range (cp * size)).map (z.cells[· % size]!) = (zeros (cellsL z) cp).toArray := by
              apply Array.toList_inj.1
              rw [cellsL_eq, ← hzs, ← madeCells_zeros (by omega) cp]
            have hfin : (Instr.makeSlice t (.int k (m : Int)) (.int k' (cp : Int))).run P w = .ok (.slice (some ⟨w.heap.size, 0, none⟩) m cp) (w.alloc (.cells ((Array.range (cp * size)).map (z.cells[· % size]!)) el)) := by
              simp only [Instr.makeSlice, Sem.run_bind, run_underlying hu, Result.andThen_ok, asInt, run_asIntOf, Sem.run_pure, run_typeInfo w hinf, w1, w2]
              rw [if_neg (by simp; omega)]
              simp only [Sem.run_bind, run_askRoom, Result.andThen_ok, run_sizeOf' hs, Int.toNat_natCast]
              by_cases hn : cp * size = 0
              · have : cp = 0 := by
                  rcases Nat.mul_eq_zero.1 hn with h | h
                  · exact h
                  · omega
                subst this
                simp only [hn, if_true, Sem.run_pure, Result.andThen_ok, Sem.run_bind, run_newRow]
                congr 3
                apply Array.toList_inj.1
                simp
              · simp only [hn, if_false, Sem.run_bind, run_zeroValue' hz0, Result.andThen_ok, Sem.run_pure, run_newRow, hzs]
            have f1 : f x = .int k (m : Int) := VR.int_inv e1
            have f2 : f y = .int k' (cp : Int) := VR.int_inv e2
            simp only [execOp, hop, f1, f2, Sem.run_bind, hfin, Result.andThen_ok, Sem.run_pure, hzz]
          · refine .slice hm (fun _ => rfl) fun _ => ⟨e, he, by cases e; simp_all, fun h => by unfold UNK at h; omega⟩
        · cases h
      · cases h
    · cases h
  · cases h
noncomputable def flos (P : Program) (ρ0 : T Value) (ops : Array Oper) : List (Nat × Tmp) → T Value → Mem → Option (List Flo × T Value × Mem) := List.rec (motive := fun _ => T Value → Mem → Option (List Flo × T Value × Mem)) (fun ρ M => some ([], ρ, M))
  (fun g _ ih ρ M => match ops[g.1]? with
    | none => none
    | some o => (match floOf P (slot ρ0) o g.1 g.2 with
      | none => none
      | some F => (match ih (putS ρ (some F.d) (F.ref M.next)) (M.alloc F.cells F.elem F.esz) with
        | none => none
        | some (xs, ρ', M') => some (F :: xs, ρ', M'))))
theorem flos_spec {P : Program} {ρ0 : T Value} {ops : Array Oper} : ∀ {gx : List (Nat × Tmp)} {ρ ρ' : T Value} {M M' : Mem} {xs : List Flo}, flos P ρ0 ops gx ρ M = some (xs, ρ', M') →
    xs.map (fun F => (F.x, F.d)) = gx ∧ (∀ F ∈ xs, ∀ o, ops[F.x]? = some o → MakesR P ops o (slot ρ0) F) ∧ slot ρ' = putsF xs M.abs.next (slot ρ) ∧ M'.abs = allocs xs M.abs
  | [], ρ, ρ', M, M', xs, h => by
    have h : some ([], ρ, M) = some (xs, ρ', M') := h
    simp only [Option.some.injEq, Prod.mk.injEq] at h
    obtain ⟨rfl, rfl, rfl⟩ := h
    exact ⟨rfl, (fun F hF => by cases hF), rfl, rfl⟩
  | (i, d) :: gx, ρ, ρ', M, M', xs, h => by
    have h : (match ops[i]? with
      | none => none
      | some o => (match floOf P (slot ρ0) o i d with
        | none => none
        | some F => (match flos P ρ0 ops gx (putS ρ (some F.d) (F.ref M.next)) (M.alloc F.cells F.elem F.esz) with
          | none => none
          | some (xs, ρ', M') => some (F :: xs, ρ', M')))) = some (xs, ρ', M') := h
    split at h
    · cases h
    rename_i o ho
    split at h
    · cases h
    rename_i F hF
    split at h
    · cases h
    rename_i xs' ρ2 M2 hr
    simp only [Option.some.injEq, Prod.mk.injEq] at h
    obtain ⟨rfl, rfl, rfl⟩ := h
    obtain ⟨k1, k2, k3, k4⟩ := flos_spec hr
    obtain ⟨x1, x2⟩ := floOf_xd hF
    refine ⟨by rw [List.map_cons, k1, x1, x2], ?_, ?_, ?_⟩
    · intro H hH o' ho'
      rcases List.mem_cons.1 hH with rfl | hH
      · rw [x1, ho] at ho'
        obtain rfl := Option.some.inj ho'
        exact floOf_spec hF
      · exact k2 H hH o' ho'
    · rw [k3, slot_put, M.alloc_spec]; rfl
    · rw [k4, M.alloc_spec]; rfl
noncomputable def drawGR (P : Program) (X : Exts) (C : Caller) (ops : Array Oper) (hs : List Nat) (gx : List (Nat × Tmp)) (q nh : List Nat) (post : Tl) (ρ : T Value) (ds : List Deferred) (M : Mem) : OpsR := match heads P ops M hs ρ with
  | none => .bad
  | some ρ => bif again P ops (slot ρ) M hs then (match flos P ρ ops gx ρ M with
    | none => .bad
    | some (_, ρ, M) => (match heads P ops M nh ρ with
      | none => .bad
      | some ρ => bif again P ops (slot ρ) M (q ++ nh) then tailR P X C ops post ρ ds M else .bad)) else .bad
section
variable {P : Program} {X : Exts} {C : Caller} {N : Nat} {ops : Array Oper}
theorem drawG_spec (hX : ExtOk P X) (hC : CS P C) (hm : P.follows .mixedOrders = true) (hN : dstsOk N ops = true) {hs : List Nat} {gx : List (Nat × Tmp)} {q nh : List Nat} {post : Tl} (hok : linGOk ops gx hs q nh post = true) {id : Nat} {k : List Item} {R : ADone → Env → List Deferred → AW → Prop} {ρ : T Value} {ds : List Deferred} {M : Mem}
    (h : (drawGR P X C ops hs gx q nh post ρ ds M).holdsX ops (fun ρ' ds' aw' => AGo P N k ρ' ds' aw' R) (fun ch ρ' ds' aw' => R (.panic ch) ρ' ds' aw')) : AGo P N (.code (.region id ops true) :: k) (slot ρ) ds M.abs R := by
  unfold drawGR at h
  split at h
  · exact h.elim
  rename_i ρ1 hh
  cases hb : again P ops (slot ρ1) M hs with
  | false => rw [hb] at h; exact h.elim
  | true =>
    rw [hb] at h
    simp only [cond_true] at h
    split at h
    · exact h.elim
    rename_i xs ρ2 M2 hf
    obtain ⟨k1, k2, k3, k4⟩ := flos_spec hf
    split at h
    · exact h.elim
    rename_i ρ3 hh3
    cases hb3 : again P ops (slot ρ3) M2 (q ++ nh) with
    | false => rw [hb3] at h; exact h.elim
    | true =>
      rw [hb3] at h
      simp only [cond_true] at h
      have e1 := heads_spec hh3
      have e2 := again_spec hb3
      have e3 := tail_spec hX hC h
      rw [k3] at e1
      rw [k4] at e2 e3
      exact ago_drawG hm hN (by rw [k1]; exact hok) k2 (heads_spec hh) (again_spec hb) ⟨slot ρ3, e1, e2, e3⟩
end
end Go.Ri

set_option linter.unusedSimpArgs false
set_option linter.unusedVariables false
set_option linter.unusedSectionVars false
namespace Go.Ri
open Go Go.Am Go.RowKit
variable [SymE]
section
variable [FT] [FTok]
abbrev VBs := FuncId → Option (TypeId × TypeId)
def VBok (P : Program) (VB : VBs) : Prop := ∀ f tS e, VB f = some (tS, e) → IsVals P f tS e
noncomputable def rgOf1 (l : List Item) : Option (Operand × Nat × Code × Code × List Item) := match silT 60 l with
  | .code c :: k => (match c with
    | .rangeFunc g ⟨[p1]⟩ assign body => some (g, p1, assign, body, k)
    | _ => none)
  | _ => none
noncomputable def rg1K (P : Program) (C : Caller) (VB : VBs) (N : Nat) (g : Operand) (p1 : Nat) (assign body : Code) (k : List Item) (ρ : T Value) (ds : List Deferred) (M : Mem) : SR := match okv P.globals.size (slot ρ) g with
  | some (.func (.func fB) ⟨[]⟩ ⟨[.pointer (some ⟨bx, 0, none⟩)]⟩) => (match VB fB with
    | some (tS, e) => (match P.underlying tS with
      | some (.slice el) => (match eLoad P (fun _ => .pointer (some ⟨bx, 0, none⟩)) M tS (.tmp 0) with
        | some (.slice q L c, _) => bif Nat.ble L 4611686018427387904 && Nat.blt p1 N then (match vlRun P C N tS e p1 assign body (.slice q L c) ρ L 0 M with
          | some M' => .go k ρ ds M'
          | none => .bad) else .bad
        | _ => .bad)
      | _ => .bad)
    | none => .bad)
  | _ => .bad
noncomputable def frOf (l : List Item) : Option (Nat × Array Oper × List Item) := match silT 60 l with
  | .code c :: k => (match c with
    | .region id ops true => some (id, ops, k)
    | _ => none)
  | _ => none
noncomputable def frK (P : Program) (X : Exts) (N : Nat) (rs : List Tmp) (ops : Array Oper) (k : List Item) (hs : List Nat) (tl : Tl) : StK := match cutG ops tl with
  | some (gx, q, nh, post) => bif dstsOk N ops && linGOk ops gx hs q nh post then ⟨fun C ρ ds M => drK rs ops k (drawGR P X C ops hs gx q nh post ρ ds M)⟩ else ⟨fun _ _ _ _ => .bad⟩
  | none => (match cutX ops tl with
    | some (pre, e, post) => bif dstsOk N ops && linXo P ops hs pre e post then ⟨fun C ρ ds M => drK rs ops k (drawX P X C ops hs pre e post ρ ds M)⟩ else ⟨fun _ _ _ _ => .bad⟩
    | none => ⟨fun _ _ _ _ => .bad⟩)
noncomputable def stepV (P : Program) (X : Exts) (RB : RBs) (VB : VBs) (N : Nat) (tab tab2 : Tab) (rs : List Tmp) (todo : List Item) : StK := match rgOf1 todo with
  | some (g, p1, assign, body, k) => ⟨fun C ρ ds M => rg1K P C VB N g p1 assign body k ρ ds M⟩
  | none => (match frOf todo with
    | some (id, ops, k) => (match tab2 id with
      | some (hs, tl) => frK P X N rs ops k hs tl
      | none => stepR P X RB N tab rs todo)
    | none => stepR P X RB N tab rs todo)
noncomputable def step4 (P : Program) (X : Exts) (C : Caller) (RB : RBs) (VB : VBs) (N : Nat) (tab tab2 : Tab) (rs : List Tmp) (todo : List Item) (ρ : T Value) (ds : List Deferred) (M : Mem) : SR := Cx.rec (motive := fun _ => SR) (fun f => f C ρ ds M) (stepV P X RB VB N tab tab2 rs todo)
theorem drK_holds {P : Program} {N : Nat} {rs : List Tmp} {ops : Array Oper} {k : List Item} {x : OpsR} {R : ADone → Env → List Deferred → AW → Prop} (h : (drK rs ops k x).holds P N rs R) :
    x.holdsX ops (fun ρ' ds' aw' => AGo P N k ρ' ds' aw' R) (fun ch ρ' ds' aw' => R (.panic ch) ρ' ds' aw') := by
  unfold drK at h
  cases x with
  | norm ρ ds M => exact h
  | pan ch ρ ds M =>
    cases ho : offB rs ops with
    | false => simp only [ho, cond_false] at h; exact h.elim
    | true =>
      simp only [ho, cond_true] at h
      intro ρ' hoff
      refine h ρ' fun t ht => hoff t fun j hj => ?_
      simp only [offB, List.all_eq_true] at ho
      have hd := ho t ht
      unfold dstOf at hj
      cases hx : ops[j]? with
      | none => simp [hx] at hj
      | some o =>
        simp only [hx, Option.bind_some] at hj
        have hm : o ∈ ops.toList := by
          have := Array.mem_of_getElem? hx
          simpa using this
        have := hd o hm
        rw [hj] at this
        simp at this
  | bad => exact h.elim
theorem step4_spec {P : Program} {X : Exts} {C : Caller} {RB : RBs} {VB : VBs} {N : Nat} {tab tab2 : Tab} {rs : List Tmp} {R : ADone → Env → List Deferred → AW → Prop} (hX : ExtOk P X) (hRB : RBok P RB) (hVB : VBok P VB) (hC : CS P C) (hm : P.follows .mixedOrders = true) {todo : List Item} (hok : okL tab N todo) {ρ : T Value} {ds : List Deferred} {M : Mem} :
    ((step4 P X C RB VB N tab tab2 rs todo ρ ds M).holds P N rs R → AGo P N todo (slot ρ) ds M.abs R) ∧ (step4 P X C RB VB N tab tab2 rs todo ρ ds M).okS tab N := by
  show (((stepV P X RB VB N tab tab2 rs todo).f C ρ ds M).holds P N rs R → _) ∧ ((stepV P X RB VB N tab tab2 rs todo).f C ρ ds M).okS tab N
  unfold stepV
  split
  · rename_i g p1 assign body k hrg
    unfold rgOf1 at hrg
    have hs : AGo P N (silT 60 todo) (slot ρ) ds M.abs R → AGo P N todo (slot ρ) ds M.abs R := silT_spec 60 todo
    have hok := silT_ok 60 hok
    generalize silT 60 todo = l at hs hok hrg
    split at hrg
    · split at hrg
      · simp only [Option.some.injEq, Prod.mk.injEq] at hrg
        obtain ⟨rfl, rfl, rfl, rfl, rfl⟩ := hrg
        simp only
        unfold rg1K
        split
        · rename_i fB bx hg
          split
          · rename_i tS e hb
            split
            · rename_i el hT
              split
              · rename_i q L c M1 hl
                cases hcnd : Nat.ble L 4611686018427387904 && Nat.blt _ N with
                | false => exact ⟨fun h => h.elim, True.intro⟩
                | true =>
                  simp only [Bool.and_eq_true, Nat.ble_eq, Nat.blt_eq] at hcnd
                  obtain ⟨c1, c2⟩ := hcnd
                  simp only [cond_true]
                  split
                  · rename_i M' hbk
                    exact ⟨fun h => hs (ago_vals hC (hVB _ _ _ hb) hg hT hl c1 c2 hbk h), hok.tail⟩
                  · exact ⟨fun h => h.elim, True.intro⟩
              · exact ⟨fun h => h.elim, True.intro⟩
            · exact ⟨fun h => h.elim, True.intro⟩
          · exact ⟨fun h => h.elim, True.intro⟩
        · exact ⟨fun h => h.elim, True.intro⟩
      · cases hrg
    · cases hrg
  · have old : (((stepR P X RB N tab rs todo).f C ρ ds M).holds P N rs R → AGo P N todo (slot ρ) ds M.abs R) ∧ ((stepR P X RB N tab rs todo).f C ρ ds M).okS tab N := step3_spec (rs := rs) hX hRB hC hm hok
    split
    · rename_i id ops k hfr
      split
      · rename_i hs' tl ht
        unfold frOf at hfr
        have hs : AGo P N (silT 60 todo) (slot ρ) ds M.abs R → AGo P N todo (slot ρ) ds M.abs R := silT_spec 60 todo
        have hok := silT_ok 60 hok
        generalize silT 60 todo = l at hs hok hfr
        split at hfr
        · split at hfr
          · simp only [Option.some.injEq, Prod.mk.injEq] at hfr
            obtain ⟨rfl, rfl, rfl⟩ := hfr
            unfold frK
            split
            · rename_i gx q nh post hcut
              cases hb : dstsOk N _ && linGOk _ gx hs' q nh post with
              | false => exact ⟨fun h => h.elim, True.intro⟩
              | true =>
                simp only [Bool.and_eq_true] at hb
                exact ⟨fun h => hs (drawG_spec hX hC hm hb.1 hb.2 (drK_holds h)), drK_ok hok.tail _⟩
            · split
              · rename_i pre e post hcut
                cases hb : dstsOk N _ && linXo P _ hs' pre e post with
                | false => exact ⟨fun h => h.elim, True.intro⟩
                | true =>
                  simp only [Bool.and_eq_true] at hb
                  exact ⟨fun h => hs (drawX_spec hX hC hm hb.1 hb.2 (drK_holds h)), drK_ok hok.tail _⟩
              · exact ⟨fun h => h.elim, True.intro⟩
          · cases hfr
        · cases hfr
      · exact old
    · exact old
noncomputable def callOneV (P : Program) (X : Exts) (RB : RBs) (VB : VBs) (tab tab2 : Nat → Tab) (n : Nat) (C : Caller) : Caller := fun f args M => match P.funcs[f]? with
  | none => none
  | some fn => (match fn.body with
    | none => none
    | some c => bif Nat.ble args.length fn.ntmps then endS P fn (callD P X C tab n) (iter (step4 P X C RB VB fn.ntmps (tab f) (tab2 f) (rSlots fn)) n [.code c] (T.ofL args 0 .leaf) [] M) else none)
theorem callOneV_spec {P : Program} {X : Exts} {RB : RBs} {VB : VBs} {C : Caller} {tab tab2 : Nat → Tab} {n : Nat} (hP : okP tab P.funcs.toList 0 = true) (hX : ExtOk P X) (hRB : RBok P RB) (hVB : VBok P VB) (hC : CS P C) (hm : P.follows .mixedOrders = true) : CS P (callOneV P X RB VB tab tab2 n C) := by
  intro f args M e M' h
  unfold callOneV endS at h
  split at h
  · cases h
  rename_i fn hf
  split at h
  · cases h
  rename_i c hb
  rw [cond_some] at h
  obtain ⟨hl, h⟩ := h
  have hl := Nat.le_of_ble_eq_true hl
  split at h
  · rename_i d ρ ds M2 hx
    refine acalls_of_ago_d hf hb rfl hl ?_
    rw [← slot_init]
    have hc : okC (tab f) fn.ntmps c = true := by
      have := okP_spec hP (j := f) (fn := fn) (by simpa using hf) hb
      rwa [Nat.zero_add] at this
    refine (iterS_spec (tab := tab f) (N := fn.ntmps) (rs := rSlots fn) (f := step4 P X C RB VB fn.ntmps (tab f) (tab2 f) (rSlots fn)) (fun todo ρ ds M h => step4_spec hX hRB hVB hC hm h) n _ _ _ _ (fun x hx => ?_)).1 ?_
    · obtain rfl := List.mem_singleton.1 hx
      exact hc
    rw [hx]
    intro ρ' hr
    exact leave_spec (callD_spec hX hC hm) hr h
  · cases h
end
noncomputable def callV [FT] (P : Program) (X : Exts) (RB : RBs) (VB : VBs) (O : Caller → Caller) (tab tab2 : Nat → Tab) (n : Nat) (d : Nat) : Caller := Nat.rec (motive := fun _ => Caller) (fun _ _ _ => none) (fun _ ih => callOneV P X RB VB tab tab2 n (O ih)) d
theorem callV_spec [FT] [FTok] {P : Program} {X : Exts} {RB : RBs} {VB : VBs} {O : Caller → Caller} (hO : ∀ C, CS P C → CS P (O C)) {tab tab2 : Nat → Tab} {n : Nat} (hP : okP tab P.funcs.toList 0 = true) (hX : ExtOk P X) (hRB : RBok P RB) (hVB : VBok P VB) (hm : P.follows .mixedOrders = true) : ∀ d, CS P (callV P X RB VB O tab tab2 n d)
  | 0 => fun _ _ _ _ _ h => by cases h
  | d + 1 => callOneV_spec hP hX hRB hVB (hO _ (callV_spec hO hP hX hRB hVB hm d)) hm
theorem run_lawV {P : Program} {X : Exts} {RB : RBs} {VB : VBs} {O : Caller → Caller} (hO : ∀ C, CS P C → CS P (O C)) {tab tab2 : Nat → Tab} {n d : Nat} {F : Facts} (hF : F.ok) (hP : okP tab P.funcs.toList 0 = true) (hX : ExtOk P X) (hRB : RBok P RB) (hVB : VBok P VB) (hm : P.follows .mixedOrders = true)
    {f : FuncId} {sargs vs : List Value} {M0 : Mem} {W : World} {s : Inj} (hr : Rel P.globals.size (· < W.heap.size) W s M0.abs W) (hv : VRs s sargs vs)
    (hrun : retB (@callV (ftOf F) P X RB VB O tab tab2 n d f sargs M0) = true) : Calls P f vs.toArray W fun e w' => e = .returned (.bool true) ∧ Below W.heap.size W w' := by
  letI : FT := ftOf F
  haveI : FTok := ftOk hF
  obtain ⟨M', hM⟩ := retB_some hrun
  have h := callV_spec hO hP hX hRB hVB hm d f sargs _ _ _ hM
  refine (h _ _ _ vs W hr hv).mono ?_
  rintro e w' ⟨s', ae, aw', _, hr', her, rfl, _⟩
  cases her with
  | returned h =>
    cases h
    exact ⟨rfl, hr'.below.below⟩
end Go.Ri

set_option linter.unusedSimpArgs false
set_option linter.unusedVariables false
set_option linter.unusedSectionVars false
namespace Go.Ri
open Go Go.Am Go.RowKit
def slD {H : Type} (s : List (List UInt8)) : DataW H := .slice (s.map fun x => .lit (.string x)) []
theorem trod_slices [SymE] {H : Type} {enc : TypeId × Value → H} {P : Program} {w : World} {fuel : Nat} {t e1 e n : Nat} {cs : List Value} {ss : List (List (List UInt8))} {p : List MemPlace}
    (ht : P.underlying t = some (.array n e1)) (h1 : P.underlying e1 = some (.slice e)) (he : P.underlying e = some .string) (hc1 : P.cellsOf e1 = 1) (hc : P.cellsOf e = 1) (hct : P.cellsOf t = n)
    (h : DataW.trod enc P w 0 (fun _ => true) false fuel t cs = some (.agg (ss.map slD), p)) : cs.length = ss.length ∧ ∀ (i : Nat) (s : List (List UInt8)), ss[i]? = some s → s ≠ [] →
      ∃ a, cs[i]? = some (.slice (some a) s.length s.length) ∧ a.spot = none ∧ ∃ C el fz, w.heap[a.block]? = some (.cells C el fz) ∧ ∀ (j : Nat) (x : List UInt8), s[j]? = some x → C[a.off + j]? = some (.string ⟨⟨x⟩⟩) := by
  obtain ⟨xs, m, _, hx, hlen, hn, hel⟩ := DataW.trod_array ht h
  simp only [Prod.mk.injEq, DataW.agg.injEq] at hx
  have hl : ss.length = n := by
    have := congrArg List.length hx.1
    simp at this; omega
  refine ⟨by omega, fun i s hs hne => ?_⟩
  have hi : i < n := by have := (List.getElem?_eq_some_iff.1 hs).1; omega
  have h2 := hel i hi
  rw [hc1, Nat.mul_one] at h2
  have hi' : i < cs.length := by omega
  have h3 : (cs.drop i).take 1 = [cs[i]] := by
    rw [List.drop_eq_getElem_cons hi']; rfl
  rw [h3] at h2
  have hxi : i < xs.length := by omega
  rw [List.getElem?_eq_getElem hxi] at h2
  have hx1 : (xs[i]).1 = slD s := by
    have := congrArg (fun l => l[i]?) hx.1
    simp only [List.getElem?_map, hs, List.getElem?_eq_getElem hxi, Option.map_some, Option.some.injEq] at this
    exact this.symm
  rcases DataW.trod_slice h1 h2 with ⟨_, h4⟩ | ⟨a, len, cap, elems, rest, q, _, h4, h5, h6, h7, h8, h9, h10, h11, _⟩
  · rw [h4] at hx1
    simp [slD] at hx1
  · have h5' : (xs[i]).1 = .slice (elems.map (·.1)) (rest.map (·.1)) := by rw [h5]
    rw [hx1] at h5'
    simp only [slD, DataW.slice.injEq] at h5'
    obtain ⟨g1, g2⟩ := h5'
    have hr0 : rest = [] := by
      cases rest with
      | nil => rfl
      | cons x r => simp at g2
    obtain ⟨k1, _⟩ := h11 rfl
    rw [hr0] at k1
    have hcap : cap = len := by simp at k1; omega
    have hlen' : len = s.length := by
      have := congrArg List.length g1
      simp at this; omega
    have hel2 : ∀ (j : Nat) (x : List UInt8), s[j]? = some x → (j = 0 → a.spot = none) ∧ ∃ C el fz, w.heap[a.block]? = some (.cells C el fz) ∧ C[a.off + j]? = some (.string ⟨⟨x⟩⟩) := by
      intro j x hj
      have hjl : j < len := by have := (List.getElem?_eq_some_iff.1 hj).1; omega
      have h12 := h10 j hjl
      rw [hc, Nat.mul_one] at h12
      have hje : j < elems.length := by omega
      rw [List.getElem?_eq_getElem hje] at h12
      cases hcl : w.cells? 0 (a.add j) 1 with
      | none => rw [hcl] at h12; cases h12
      | some c =>
        rw [hcl] at h12
        simp only [Option.bind_some] at h12
        obtain ⟨u, e1, e2, _⟩ := DataW.trod_string he h12
        have hxj : (elems[j]).1 = .lit (.string x) := by
          have := congrArg (fun l => l[j]?) g1
          simp only [List.getElem?_map, hj, List.getElem?_eq_getElem hje, Option.map_some, Option.some.injEq] at this
          exact this.symm
        rw [e2] at hxj
        simp only [DataW.lit.injEq, Lit.string.injEq] at hxj
        obtain ⟨hsp, C, el, fz, hh, hsz, hcc⟩ := cells_at hcl (by decide)
        obtain ⟨f1, f2⟩ := add_lit' a j
        rw [f1] at hh
        rw [f2] at hcc hsz
        refine ⟨fun h0 => by subst h0; simpa [Addr.add] using hsp, C, el, fz, hh, ?_⟩
        have hlt : a.off + j < C.size := by omega
        have : C.toList.drop (a.off + j) = C[a.off + j] :: C.toList.drop (a.off + j + 1) := by
          rw [List.drop_eq_getElem_cons (by simpa using hlt)]; simp
        rw [this] at hcc
        simp only [List.take_succ_cons, List.take_zero] at hcc
        rw [e1] at hcc
        simp only [List.cons.injEq, and_true] at hcc
        rw [Array.getElem?_eq_getElem hlt, ← hcc]
        rcases u with ⟨⟨u⟩⟩
        simp only at hxj
        rw [hxj]
    obtain ⟨x0, hx0⟩ : ∃ x0, s[0]? = some x0 := by
      cases s with
      | nil => exact absurd rfl hne
      | cons x r => exact ⟨x, rfl⟩
    obtain ⟨hsp, C, el, fz, hh, _⟩ := hel2 0 x0 hx0
    refine ⟨a, ?_, hsp rfl, C, el, fz, hh, fun j x hj => ?_⟩
    · simp only [List.cons.injEq, and_true] at h4
      rw [List.getElem?_eq_getElem hi', h4, hcap, hlen']
    · obtain ⟨_, C', el', fz', hh', hc'⟩ := hel2 j x hj
      rw [hh] at hh'
      have hq := Option.some.inj hh'
      injection hq with q1 q2 q3
      subst q1
      exact hc'
theorem rel_memR [SymE] [FT] [FTok] {G n : Nat} {W : World} {ents : List Ent} {l : List (Nat × List Value × TypeId × Nat)} (hn : n = G + ents.length)
    (h : ∀ p ∈ l, p.1 < n ∧ ∃ e cs fz, inj0 G W ents p.1 = some e ∧ e.esz = p.2.2.2 ∧ (p.2.2.2 = 0 → e.off = 0 ∧ e.csize = p.2.1.length) ∧ W.heap[e.cb]? = some (.cells cs p.2.2.1 fz) ∧ cs.size = e.csize ∧ e.off + p.2.1.length ≤ e.csize ∧
      ∀ (i : Nat) (v : Value), p.2.1[i]? = some v → ∃ v', cs[e.off + i]? = some v' ∧ VR (inj0 G W ents) v v') : Rel G (· < W.heap.size) W (inj0 G W ents) (memR n l).abs W := by
  have r := rel_start G W ents
  subst hn
  refine ⟨r.fresh, fun b hb => ?_, fun b B hB => ?_, fun b1 b2 B1 B2 e1 e2 _ hB1 _ _ _ hrw => ?_, r.hbase, r.glob, r.below⟩
  · cases hB : (memR (G + ents.length) l).abs.m b with
    | none => rfl
    | some B =>
      obtain ⟨p, hp, rfl, _⟩ := memR_abs l b B hB
      have := (h p hp).1
      have hb' : G + ents.length ≤ p.1 := hb
      omega
  · obtain ⟨p, hp, rfl, rfl⟩ := memR_abs l b B hB
    obtain ⟨_, e, cs, fz, h1, h2, h3, h4, h5, h6, h7⟩ := h p hp
    exact ⟨e, cs, fz, h1, ⟨h2, (fun h => by cases h), h3⟩, h4, h5, h6, h7, (fun h => by cases h)⟩
  · obtain ⟨p, hp, rfl, rfl⟩ := memR_abs l b1 B1 hB1
    cases hrw
end Go.Ri

set_option linter.unusedVariables false
set_option linter.unusedSimpArgs false
namespace Go.Ri
open Go Go.Am
@[reducible] def symOf (l : List (IntKind × Int)) : SymE := ⟨fun i => .int (l.getD i (.i64, 0)).1 (l.getD i (.i64, 0)).2, fun i => .inl ⟨_, _, rfl⟩⟩
theorem remT {k : IntKind} {m n : Int} (h : n ≠ 0) : bin0 .rem (.int k m) (.int k n) = some (.int k (m.tmod n)) := by simp [bin0, binI, ar, h]
theorem fw_byte {m : Nat} (h : m ≤ 255) : fw .i64 (Int.ofNat m) = Int.ofNat m := by
  haveI : SymE := symOf []
  rw [fw_eq]
  exact inR_spec (k := .i64) (n := Int.ofNat m) (Nat.ble_eq_true_of_le (Nat.le_trans h (by decide)))
theorem remM {m : Nat} (h : m ≤ 255) {q k : Nat} (hq : q ≠ 0) (hk : m % q = k) : bin0 .rem (.int .i64 (fw .i64 (Int.ofNat m))) (.int .i64 (Int.ofNat q)) = some (.int .i64 (.ofNat k)) := by
  rw [remT (fun e => hq (by simpa using e)), fw_byte h]
  have : (Int.ofNat m).tmod (Int.ofNat q) = Int.ofNat (m % q) := rfl
  rw [this, hk]
end Go.Ri
