/- A law of plain numbers, run by the interpreter over the program's own variables. -/
import Derived.Test.YtfoceofohlpafaaDoorRi11
import Derived.OpenShut
import Derived.ChangeArms
set_option linter.unusedSimpArgs false
set_option linter.unusedVariables false
set_option linter.unusedSectionVars false
namespace Go.Ri
open Go Go.Am Go.RowKit

/-! the cells of plain data, by its type -/
noncomputable def cellsD {H : Type} (P : Program) : Nat → TypeId → DataW H → Option (List Value)
  | 0, _, _ => none
  | m + 1, t, d => match P.underlying t, d with
    | some .bool, .lit (.bool b) => some [.bool b]
    | some (.int k), .lit (.int k' n) => if k' = k then some [.int k n] else none
    | some .string, .lit (.string l) => some [.string ⟨⟨l⟩⟩]
    | some (.array n e), .agg ds => if ds.length = n ∧ P.cellsOf t = n * P.cellsOf e then all m e ds else none
    | _, _ => none
where
  all {H : Type} (m : Nat) (e : TypeId) : List (DataW H) → Option (List Value)
  | [] => some []
  | d :: r => match cellsD P m e d, all m e r with
    | some a, some b => if a.length = P.cellsOf e then some (a ++ b) else none
    | _, _ => none
theorem cellsD_spec {H : Type} {enc : TypeId × Value → H} {P : Program} {w : World} {base : Nat} {spare : Nat → Bool} {held : Bool} : ∀ {m fuel : Nat} {t : TypeId} {d : DataW H} {l cs : List Value} {p : List MemPlace}, cellsD P m t d = some l →
    DataW.trod enc P w base spare held fuel t cs = some (d, p) → cs = l
  | 0, _, _, _, _, _, _, h, _ => by simp [cellsD] at h
  | m + 1, fuel, t, d, l, cs, p, h, hd => by
    unfold cellsD at h
    split at h
    · rename_i b hu
      simp only [Option.some.injEq] at h; subst h
      obtain ⟨b', rfl, e⟩ := DataW.trod_bool hu hd
      simp only [Prod.mk.injEq, DataW.lit.injEq, Lit.bool.injEq] at e
      rw [e.1]
    · rename_i k k' n hu
      split at h
      · rename_i hk; subst hk
        simp only [Option.some.injEq] at h; subst h
        obtain ⟨b', rfl, e, _⟩ := DataW.trod_int hu hd
        simp only [Prod.mk.injEq, DataW.lit.injEq, Lit.int.injEq, true_and] at e
        rw [e.1]
      · cases h
    · rename_i s hu
      simp only [Option.some.injEq] at h; subst h
      obtain ⟨b', rfl, e, _⟩ := DataW.trod_string hu hd
      simp only [Prod.mk.injEq, DataW.lit.injEq, Lit.string.injEq] at e
      rw [e.1]
    · rename_i n e ds hu
      split at h
      · rename_i hn
        obtain ⟨hn1, hn2⟩ := hn
        obtain ⟨xs, q, rfl, hx, hlen, hxn, hel⟩ := DataW.trod_array hu hd
        simp only [Prod.mk.injEq, DataW.agg.injEq] at hx
        have key : ∀ (ds : List (DataW H)) (cs l : List Value), (∀ i d, ds[i]? = some d → ∃ p, DataW.trod enc P w base spare held q e ((cs.drop (i * P.cellsOf e)).take (P.cellsOf e)) = some (d, p)) → cs.length = ds.length * P.cellsOf e →
            cellsD.all P m e ds = some l → cs = l := by
          intro ds
          induction ds with
          | nil =>
            intro cs l _ hl ha
            simp only [cellsD.all, Option.some.injEq] at ha
            simp at hl
            rw [← ha, hl]
          | cons d r ih =>
            intro cs l hh hl ha
            rw [cellsD.all] at ha
            split at ha
            · rename_i a b h1 h2
              split at ha
              · rename_i hal
                simp only [Option.some.injEq] at ha
                subst ha
                obtain ⟨p0, e0⟩ := hh 0 d rfl
                simp only [Nat.zero_mul, List.drop_zero] at e0
                have ea := cellsD_spec h1 e0
                have eb := ih (cs.drop (P.cellsOf e)) b (fun i d' hd' => by
                  obtain ⟨p', e'⟩ := hh (i + 1) d' (by simpa using hd')
                  rw [Nat.add_mul, Nat.one_mul, Nat.add_comm, ← List.drop_drop] at e'
                  exact ⟨p', e'⟩) (by rw [List.length_drop, hl, List.length_cons, Nat.add_mul]; omega) h2
                rw [← ea, ← eb, List.take_append_drop]
              · cases ha
            · cases ha
        refine key ds cs l (fun i d' hd' => ?_) (by rw [hlen, hn2, hn1]) h
        have hi : i < n := by
          have := (List.getElem?_eq_some_iff.1 hd').1
          omega
        have := hel i hi
        rw [hx.1, List.getElem?_map] at hd'
        cases hxi : xs[i]? with
        | none => rw [hxi] at hd'; cases hd'
        | some x =>
          rw [hxi] at hd' this
          simp only [Option.map_some, Option.some.injEq] at hd'
          obtain ⟨x1, x2⟩ := x
          simp only at hd'
          subst hd'
          exact ⟨x2, this⟩
      · cases h
    · cases h
variable [SymE]
theorem laid_cells {P : Program} {W : World} {L : List (String × DataW Unit)} {ps : List MemPlace} (hL : DataW.LaidVars P W L ps) {n : String} {d : DataW Unit} (hm : (n, d) ∈ L) {g t m : Nat} {cells : List Value}
    (hg : P.globalNamed n = some g) (ht : (P.globals[g]?).map (·.type) = some t) (hc : cellsD P m t d = some cells) : ∃ t1 cs fz, W.heap[g]? = some (.cells cs t1 fz) ∧ cs.toList = cells := by
  obtain ⟨g', t', cs, fuel, p, h1, h2, h3, h4⟩ := laid_get hL n d hm
  obtain rfl := Option.some.inj (hg.symm.trans h1)
  obtain rfl := Option.some.inj (ht.symm.trans h2)
  obtain ⟨t1, fz, h5⟩ := var_heap hg h3
  exact ⟨t1, cs, fz, h5, cellsD_spec hc h4⟩
theorem rel_mem0 {G : Nat} {W : World} {l : List (Nat × List Value × TypeId)} (h : ∀ p ∈ l, p.1 < G ∧ (∃ cs fz, W.heap[p.1]? = some (.cells cs p.2.2 fz) ∧ cs.toList = p.2.1) ∧ plains p.2.1 = true) :
    Rel G W.heap.size W (inj0 G W []) (mem0 G l).abs W := by
  have r := rel_start G W []
  refine ⟨r.fresh, fun b hb => ?_, fun b B hB => ?_, fun b1 b2 B1 B2 e1 e2 _ hB1 _ _ _ hrw => ?_, r.hbase, r.glob, r.below⟩
  · cases hB : (mem0 G l).abs.m b with
    | none => rfl
    | some B =>
      obtain ⟨p, hp, rfl, _⟩ := mem0_abs l b B hB
      have := (h p hp).1
      have hb' : G ≤ p.1 := hb
      omega
  · obtain ⟨p, hp, rfl, rfl⟩ := mem0_abs l b B hB
    obtain ⟨h1, ⟨cs, fz, h2, h3⟩, h4⟩ := h p hp
    have hsz : cs.size = csz W p.1 := by simp [csz, h2]
    have hl : cs.size = p.2.1.length := by rw [← h3]; simp
    refine ⟨⟨p.1, 0, csz W p.1, 0⟩, cs, fz, by simp [inj0, h1], ⟨rfl, (fun h => by cases h), fun _ => ⟨rfl, by simp only; omega⟩⟩, h2, hsz, by simp only; omega, fun i v hi => ⟨v, ?_, ?_⟩, fun h => by cases h⟩
    · simp only at hi ⊢
      rw [Nat.zero_add, ← hi, ← h3]; simp
    · refine VR.ofPlain ?_
      have key : ∀ (l : List Value) (i : Nat), plains l = true → l[i]? = some v → plain v = true := by
        intro l
        induction l with
        | nil => intro i _ h; simp at h
        | cons x l ih =>
          intro i hp h
          simp only [plains, Bool.and_eq_true] at hp
          cases i with
          | zero => simp at h; subst h; exact hp.1
          | succ i => exact ih i hp.2 (by simpa using h)
      exact key _ i h4 hi
  · obtain ⟨p, hp, rfl, rfl⟩ := mem0_abs l b1 B1 hB1
    cases hrw

/-! what is known of symbols, as tables -/
structure Facts where
  bins : List (BinOp × Value × Value × Value) := []
  uns : List (UnOp × Value × Value) := []
  convs : List (IntKind × Value × Value) := []
  lens : List (Value × Value) := []
noncomputable def lookB (l : List (BinOp × Value × Value × Value)) (op : BinOp) (u w : Value) : Option Value := List.rec (motive := fun _ => Option Value) none
  (fun e _ ih => bif decide (e.1 = op) && (vEq 2 e.2.1 u && vEq 2 e.2.2.1 w) then some e.2.2.2 else ih) l
noncomputable def lookU (l : List (UnOp × Value × Value)) (op : UnOp) (u : Value) : Option Value := List.rec (motive := fun _ => Option Value) none
  (fun e _ ih => bif decide (e.1 = op) && vEq 2 e.2.1 u then some e.2.2 else ih) l
noncomputable def lookC (l : List (IntKind × Value × Value)) (j : IntKind) (u : Value) : Option Value := List.rec (motive := fun _ => Option Value) none
  (fun e _ ih => bif decide (e.1 = j) && vEq 2 e.2.1 u then some e.2.2 else ih) l
noncomputable def lookL (l : List (Value × Value)) (u : Value) : Option Value := List.rec (motive := fun _ => Option Value) none
  (fun e _ ih => bif vEq 2 e.1 u then some e.2 else ih) l
@[reducible] noncomputable def ftOf (F : Facts) : FT := ⟨lookB F.bins, lookU F.uns, lookC F.convs, lookL F.lens⟩
theorem lookB_spec {op : BinOp} {u w v : Value} : ∀ {l : List (BinOp × Value × Value × Value)}, lookB l op u w = some v → (op, u, w, v) ∈ l
  | [], h => by cases h
  | (op', u', w', v') :: l, h => by
    have h : (bif decide (op' = op) && (vEq 2 u' u && vEq 2 w' w) then some v' else lookB l op u w) = some v := h
    cases hb : decide (op' = op) && (vEq 2 u' u && vEq 2 w' w) with
    | true =>
      rw [hb] at h
      simp only [cond_true, Option.some.injEq] at h
      simp only [Bool.and_eq_true, decide_eq_true_eq] at hb
      rw [hb.1, vEq_spec _ _ _ hb.2.1, vEq_spec _ _ _ hb.2.2, h]
      exact List.mem_cons_self ..
    | false =>
      rw [hb] at h
      exact List.mem_cons_of_mem _ (lookB_spec h)
theorem lookU_spec {op : UnOp} {u v : Value} : ∀ {l : List (UnOp × Value × Value)}, lookU l op u = some v → (op, u, v) ∈ l
  | [], h => by cases h
  | (op', u', v') :: l, h => by
    have h : (bif decide (op' = op) && vEq 2 u' u then some v' else lookU l op u) = some v := h
    cases hb : decide (op' = op) && vEq 2 u' u with
    | true =>
      rw [hb] at h
      simp only [cond_true, Option.some.injEq] at h
      simp only [Bool.and_eq_true, decide_eq_true_eq] at hb
      rw [hb.1, vEq_spec _ _ _ hb.2, h]
      exact List.mem_cons_self ..
    | false =>
      rw [hb] at h
      exact List.mem_cons_of_mem _ (lookU_spec h)
theorem lookC_spec {op : IntKind} {u v : Value} : ∀ {l : List (IntKind × Value × Value)}, lookC l op u = some v → (op, u, v) ∈ l
  | [], h => by cases h
  | (op', u', v') :: l, h => by
    have h : (bif decide (op' = op) && vEq 2 u' u then some v' else lookC l op u) = some v := h
    cases hb : decide (op' = op) && vEq 2 u' u with
    | true =>
      rw [hb] at h
      simp only [cond_true, Option.some.injEq] at h
      simp only [Bool.and_eq_true, decide_eq_true_eq] at hb
      rw [hb.1, vEq_spec _ _ _ hb.2, h]
      exact List.mem_cons_self ..
    | false =>
      rw [hb] at h
      exact List.mem_cons_of_mem _ (lookC_spec h)
theorem lookL_spec {u v : Value} : ∀ {l : List (Value × Value)}, lookL l u = some v → (u, v) ∈ l
  | [], h => by cases h
  | (u', v') :: l, h => by
    have h : (bif vEq 2 u' u then some v' else lookL l u) = some v := h
    cases hb : vEq 2 u' u with
    | true =>
      rw [hb] at h
      simp only [cond_true, Option.some.injEq] at h
      rw [vEq_spec _ _ _ hb, h]
      exact List.mem_cons_self ..
    | false =>
      rw [hb] at h
      exact List.mem_cons_of_mem _ (lookL_spec h)
noncomputable def conv0 (j : IntKind) : Value → Option Value
  | .int _ m => some (.int j (fw j m))
  | _ => none
noncomputable def len0 : Value → Option Value
  | .string ⟨⟨l⟩⟩ => some (.int .i64 (.ofNat l.length))
  | _ => none
/-- the facts are true -/
structure Facts.ok (F : Facts) : Prop where
  bins : ∀ e ∈ F.bins, bin0 e.1 (den e.2.1) (den e.2.2.1) = some (den e.2.2.2)
  uns : ∀ e ∈ F.uns, un0 e.1 (den e.2.1) = some (den e.2.2)
  convs : ∀ e ∈ F.convs, conv0 e.1 (den e.2.1) = some (den e.2.2)
  lens : ∀ e ∈ F.lens, len0 (den e.1) = some (den e.2)
theorem ftOk {F : Facts} (h : F.ok) : @FTok _ (ftOf F) := @FTok.mk _ (ftOf F)
  (fun op u w v hl => h.bins _ (lookB_spec hl))
  (fun op u v hl => h.uns _ (lookU_spec hl))
  (fun j u v hl => by
    have := h.convs _ (lookC_spec hl)
    simp only at this
    unfold conv0 at this
    split at this
    · rename_i k m he
      simp only [Option.some.injEq] at this
      exact ⟨k, m, he, this.symm⟩
    · cases this)
  (fun u v hl => by
    have := h.lens _ (lookL_spec hl)
    simp only at this
    unfold len0 at this
    split at this
    · rename_i l he
      simp only [Option.some.injEq] at this
      exact ⟨l, he, this.symm⟩
    · cases this)

noncomputable def retB : Option (AEnd × Mem) → Bool
  | some (.returned (.bool b), _) => b
  | _ => false
theorem retB_some {x : Option (AEnd × Mem)} (h : retB x = true) : ∃ M', x = some (.returned (.bool true), M') := by
  unfold retB at h
  split at h
  · rename_i b M'
    subst h; exact ⟨M', rfl⟩
  · cases h
/-- a law, run -/
theorem run_law {P : Program} {X : Exts} {tab : Nat → Tab} {n d : Nat} {F : Facts} (hF : F.ok) (hX : ExtOk P X) (hm : P.follows .mixedOrders = true) {f : FuncId} {sargs vs : List Value} {l : List (Nat × List Value × TypeId)} {W : World}
    (hG : ∀ p ∈ l, p.1 < P.globals.size ∧ (∃ cs fz, W.heap[p.1]? = some (.cells cs p.2.2 fz) ∧ cs.toList = p.2.1) ∧ plains p.2.1 = true) (hv : VRs (inj0 P.globals.size W []) sargs vs)
    (hrun : retB (@callN (ftOf F) P X tab n d f sargs (mem0 P.globals.size l)) = true) : Calls P f vs.toArray W fun e w' => e = .returned (.bool true) ∧ Below W.heap.size W w' := by
  letI : FT := ftOf F
  haveI : FTok := ftOk hF
  obtain ⟨M', hM⟩ := retB_some hrun
  have h := callN_spec hX hm d f sargs _ _ _ hM
  refine (h _ _ _ vs W (rel_mem0 hG) hv).mono ?_
  rintro e w' ⟨s', ae, aw', _, hr', her, rfl, _⟩
  cases her with
  | returned h =>
    cases h
    exact ⟨rfl, hr'.below⟩
end Go.Ri
