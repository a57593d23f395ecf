/- The library of this claim, part 4: values alike, an abstract memory, operations, regions, an interpreter that the kernel runs. -/
import Derived.Test.YtacnonepegjooaaGreatDoorL3
set_option linter.unusedSimpArgs false
set_option linter.unusedVariables false
set_option linter.unusedSectionVars false
namespace Go.Ri
open Go Go.Am Go.RowKit
variable [SymE] [FT] [FTok]
abbrev RBs := FuncId → Option (TypeId × TypeId)
def RBok (P : Program) (RB : RBs) : Prop := ∀ f tS e, RB f = some (tS, e) → IsBack P f tS e
noncomputable def rgOf (l : List Item) : Option (Operand × Nat × Nat × Code × Code × List Item) := match silT 60 l with
  | .code c :: k => (match c with
    | .rangeFunc g ⟨[p1, p2]⟩ assign body => some (g, p1, p2, assign, body, k)
    | _ => none)
  | _ => none
noncomputable def rgK (P : Program) (C : Caller) (RB : RBs) (N : Nat) (g : Operand) (p1 p2 : Nat) (assign body : Code) (k : List Item) (ρ : T Value) (ds : List Deferred) (M : Mem) : SR := match okv P.globals.size (slot ρ) g with
  | some (.func (.func fB) ⟨[]⟩ ⟨[.pointer (some ⟨bx, 0, none⟩)]⟩) => (match RB fB with
    | some (tS, e) => (match P.underlying tS with
      | some (.slice el) => (match eLoad P (fun _ => .pointer (some ⟨bx, 0, none⟩)) M tS (.tmp 0) with
        | some (.slice q L c, _) => bif Nat.ble L 4611686018427387904 && (Nat.blt p1 N && Nat.blt p2 N) then (match bkRun P C N tS e p1 p2 assign body bx ρ L L M with
          | some M' => .go k ρ ds M'
          | none => .bad) else .bad
        | _ => .bad)
      | _ => .bad)
    | none => .bad)
  | _ => .bad
noncomputable def stepR (P : Program) (X : Exts) (RB : RBs) (N : Nat) (tab : Tab) (rs : List Tmp) (todo : List Item) : StK := match rgOf todo with
  | none => stepC P X tab rs todo
  | some (g, p1, p2, assign, body, k) => ⟨fun C ρ ds M => rgK P C RB N g p1 p2 assign body k ρ ds M⟩
noncomputable def step3 (P : Program) (X : Exts) (C : Caller) (RB : RBs) (N : Nat) (tab : Tab) (rs : List Tmp) (todo : List Item) (ρ : T Value) (ds : List Deferred) (M : Mem) : SR := Cx.rec (motive := fun _ => SR) (fun f => f C ρ ds M) (stepR P X RB N tab rs todo)
theorem step3_eq (P : Program) (X : Exts) (C : Caller) (RB : RBs) (N : Nat) (tab : Tab) (rs : List Tmp) (todo : List Item) (ρ : T Value) (ds : List Deferred) (M : Mem) : step3 P X C RB N tab rs todo ρ ds M = match rgOf todo with
  | none => step2 P X C tab rs todo ρ ds M
  | some (g, p1, p2, assign, body, k) => rgK P C RB N g p1 p2 assign body k ρ ds M := by
  show (stepR P X RB N tab rs todo).f C ρ ds M = _
  unfold stepR
  split <;> rfl
theorem step3_spec {P : Program} {X : Exts} {C : Caller} {RB : RBs} {N : Nat} {tab : Tab} {rs : List Tmp} {R : ADone → Env → List Deferred → AW → Prop} (hX : ExtOk P X) (hRB : RBok P RB) (hC : CS P C) (hm : P.follows .mixedOrders = true) {todo : List Item} (hok : okL tab N todo) {ρ : T Value} {ds : List Deferred} {M : Mem} :
    ((step3 P X C RB N tab rs todo ρ ds M).holds P N rs R → AGo P N todo (slot ρ) ds M.abs R) ∧ (step3 P X C RB N tab rs todo ρ ds M).okS tab N := by
  rw [step3_eq]
  split
  · exact step2_spec hX hC hm hok
  · rename_i g p1 p2 assign body k hrg
    unfold rgOf at hrg
    have hs : AGo P N (silT 60 todo) (slot ρ) ds M.abs R → AGo P N todo (slot ρ) ds M.abs R := silT_spec 60 todo
    have hok := silT_ok 60 hok
    generalize silT 60 todo = l at hs hok hrg
    split at hrg
    · split at hrg
      · simp only [Option.some.injEq, Prod.mk.injEq] at hrg
        obtain ⟨rfl, rfl, rfl, rfl, rfl, rfl⟩ := hrg
        unfold rgK
        split
        · rename_i fB bx hg
          split
          · rename_i tS e hb
            split
            · rename_i el hT
              split
              · rename_i q L c M1 hl
                cases hcnd : Nat.ble L 4611686018427387904 && (Nat.blt _ N && Nat.blt _ N) with
                | false => exact ⟨fun h => h.elim, True.intro⟩
                | true =>
                  simp only [Bool.and_eq_true, Nat.ble_eq, Nat.blt_eq] at hcnd
                  obtain ⟨c1, c2, c3⟩ := hcnd
                  simp only [cond_true]
                  split
                  · rename_i M' hbk
                    exact ⟨fun h => hs (ago_back hC (hRB _ _ _ hb) hg hT hl c1 c2 c3 hbk h), hok.tail⟩
                  · exact ⟨fun h => h.elim, True.intro⟩
              · exact ⟨fun h => h.elim, True.intro⟩
            · exact ⟨fun h => h.elim, True.intro⟩
          · exact ⟨fun h => h.elim, True.intro⟩
        · exact ⟨fun h => h.elim, True.intro⟩
      · cases hrg
    · cases hrg
end Go.Ri
set_option linter.unusedSimpArgs false
set_option linter.unusedVariables false
set_option linter.unusedSectionVars false
namespace Go.Ri
open Go Go.Am Go.RowKit
variable [SymE]
variable [FT] [FTok]
def rnV (ren : Nat → Nat) : Value → Value
  | .pointer (some ⟨b, o, q⟩) => .pointer (some ⟨ren b, o, q⟩)
  | .slice (some ⟨b, o, q⟩) l c => .slice (some ⟨ren b, o, q⟩) l c
  | v => v
def okV (n : Nat) : Value → Bool
  | .pointer (some ⟨b, _, none⟩) => Nat.blt b n
  | .slice (some ⟨b, _, none⟩) _ _ => Nat.blt b n
  | .pointer (some ⟨_, _, some _⟩) => false
  | .slice (some ⟨_, _, some _⟩) _ _ => false
  | v => plain v
theorem vr_ren {s : Inj} {ren : Nat → Nat} {n : Nat} {v v' : Value} (h : okV n v = true) (hv : VR s (rnV ren v) v') : VR (fun b => if b < n then s (ren b) else none) v v' := by
  have pl : ∀ {v : Value}, plain v = true → VR s v v' → VR (fun b => if b < n then s (ren b) else none) v v' := fun hp hv => by
    have := VR.eq_of_plain hv hp
    subst this
    exact VR.ofPlain hp
  unfold okV at h
  split at h
  · rename_i b o
    rw [Nat.blt_eq] at h
    simp only [rnV] at hv
    cases hv with
    | ptr he => exact .ptr (by simp only [if_pos h]; exact he)
  · rename_i b o l c
    rw [Nat.blt_eq] at h
    simp only [rnV] at hv
    cases hv with
    | slice hl hc hh => exact .slice hl hc fun hp => by simp only [if_pos h]; exact hh hp
  · cases h
  · cases h
  · rename_i h1 h2 h3 h4
    have e : rnV ren v = v := by
      unfold rnV
      split
      · rename_i b o q
        cases q with
        | none => exact absurd rfl (h1 b o)
        | some q => exact absurd rfl (h3 b o q)
      · rename_i b o q l c
        cases q with
        | none => exact absurd rfl (h2 b o l c)
        | some q => exact absurd rfl (h4 b o q l c)
      · rfl
    rw [e] at hv
    exact pl h hv
structure UnderR (G : Nat) (ren : Nat → Nat) (aw0 aw : AW) : Prop where
  le : G ≤ aw0.next
  gl : ∀ g, g < G → ren g = g
  no : ∀ b, aw0.next ≤ b → aw0.m b = none
  blk : ∀ b B, aw0.m b = some B → B.rw = false ∧ ∃ B', aw.m (ren b) = some B' ∧ B'.elem = B.elem ∧ B'.esz = B.esz ∧ (B.esz = 0 → B'.cells.length = B.cells.length) ∧
    ∀ (i : Nat) (v : Value), B.cells[i]? = some v → okV aw0.next v = true ∧ B'.cells[i]? = some (rnV ren v)
  mps : ∀ b, aw0.mp b = none
theorem vrs_ren {s : Inj} {ren : Nat → Nat} {n : Nat} : ∀ {l l' : List Value}, l.all (okV n) = true → VRs s (l.map (rnV ren)) l' → VRs (fun b => if b < n then s (ren b) else none) l l'
  | [], _, _, h => by cases h; exact .nil
  | x :: l, _, ha, h => by
    simp only [List.all_cons, Bool.and_eq_true] at ha
    simp only [List.map_cons] at h
    cases h with
    | cons h1 t => exact .cons (vr_ren ha.1 h1) (vrs_ren ha.2 t)
theorem acalls_ren {P : Program} {f : FuncId} {args : List Value} {aw0 aw aw1 : AW} {v : Value} {ren : Nat → Nat} (hu : UnderR P.globals.size ren aw0 aw) (ha : args.all (okV aw0.next) = true) (hv : plain v = true)
    (h : ACalls P f args aw0 fun e aw' => e = .returned v ∧ aw' = aw1) : ACalls P f (args.map (rnV ren)) aw fun e aw' => e = .returned v ∧ aw' = aw := by
  intro base w0 s args' w hr hargs
  have r0 : Rel P.globals.size (· < w.heap.size) w (fun b => if b < aw0.next then s (ren b) else none) aw0 w := by
    refine ⟨?_, ?_, ?_, ?_, (fun k hk => hk), ?_, Keep.refl _ _, Maps.none hu.mps⟩
    · intro b hb
      simp only [if_neg (show ¬ b < aw0.next by omega)]
    · exact hu.no
    · intro b B hB
      have hlt : b < aw0.next := by
        rcases Nat.lt_or_ge b aw0.next with h | h
        · exact h
        · rw [hu.no b h] at hB; cases hB
      obtain ⟨h3, B', k1, k2, k3, k4, k5⟩ := hu.blk b B hB
      obtain ⟨e, cs, fz, g1, g2, g3, g4, g5, g6, g7⟩ := hr.blk (ren b) B' k1
      have hlen : B.cells.length ≤ B'.cells.length := by
        rcases Nat.lt_or_ge B'.cells.length B.cells.length with h | h
        · have hx := (k5 B'.cells.length _ (List.getElem?_eq_getElem h)).2
          rw [List.getElem?_eq_none (Nat.le_refl _)] at hx; cases hx
        · exact h
      refine ⟨e, cs, fz, by simp only [if_pos hlt]; exact g1, ⟨g2.1.trans k3, (fun h => absurd (h3.symm.trans h) (by decide)), fun h0 => ?_⟩, k2 ▸ g3, g4, by omega, fun i u hi => ?_, (fun h => absurd (h3.symm.trans h) (by decide))⟩
      · obtain ⟨q1, q2⟩ := g2.2.2 (k3.trans h0)
        exact ⟨q1, by rw [q2, k4 h0]⟩
      · obtain ⟨j1, j2⟩ := k5 i u hi
        obtain ⟨u', l1, l2⟩ := g6 i _ j2
        exact ⟨u', l1, vr_ren j1 l2⟩
    · intro b1 b2 B1 B2 e1 e2 _ hB1 _ _ _ hrw
      rw [(hu.blk b1 B1 hB1).1] at hrw; cases hrw
    · intro g hg
      obtain ⟨e, h1, h2⟩ := hr.glob g hg
      exact ⟨e, by simp only [if_pos (Nat.lt_of_lt_of_le hg hu.le), hu.gl g hg]; exact h1, h2⟩
  refine (h _ _ _ args' w r0 (vrs_ren ha hargs)).mono ?_
  rintro e w' ⟨s', ae, aw', _, hrel, her, hq, _⟩
  subst hq
  exact ⟨s, .returned v, aw, Inj.le_refl s, hr.later hrel.below, plain_ER hv her, rfl, rfl⟩
noncomputable def memR (n : Nat) (l : List (Nat × List Value × TypeId × Nat)) : Mem := ⟨List.rec (motive := fun _ => T (Option RB)) .leaf (fun p _ ih => T.dn ih fun t => T.set (some ⟨T.ofL p.2.1 0 .leaf, p.2.1.length, p.2.2.1, p.2.2.2, false, 0⟩) t p.1) l, n, .leaf⟩
theorem memR_abs {n : Nat} : ∀ (l : List (Nat × List Value × TypeId × Nat)) (b : Nat) (B : Blk), (memR n l).abs.m b = some B → ∃ p ∈ l, p.1 = b ∧ B = ⟨p.2.1, p.2.2.1, p.2.2.2, false, 0⟩
  | [], b, B, h => by
    have : (memR n []).abs.m b = none := by simp [Mem.abs, Mem.at, memR, T.get_leaf]
    rw [this] at h; cases h
  | p :: l, b, B, h => by
    have hbl : (memR n (p :: l)).bl = T.set (some ⟨T.ofL p.2.1 0 .leaf, p.2.1.length, p.2.2.1, p.2.2.2, false, 0⟩) (memR n l).bl p.1 := by
      rfl
    simp only [Mem.abs, Mem.at, hbl, T.get_set] at h
    by_cases hb : b = p.1
    · rw [if_pos hb] at h
      simp only [Option.map_some, Option.some.injEq] at h
      refine ⟨p, by simp, hb.symm, ?_⟩
      rw [← h]
      simp only [RB.abs, Blk.mk.injEq, and_true]
      apply List.ext_getElem?
      intro k
      simp only [List.getElem?_map]
      rcases Nat.lt_or_ge k p.2.1.length with hk | hk
      · rw [List.getElem?_range hk]
        simp only [Option.map_some, T.get_ofL]
        rw [if_pos (by omega), Nat.sub_zero, List.getElem?_eq_getElem hk]; rfl
      · rw [List.getElem?_eq_none (by simp; omega), List.getElem?_eq_none hk]; rfl
    · rw [if_neg hb] at h
      obtain ⟨q, hq, h1, h2⟩ := memR_abs l b B h
      exact ⟨q, by simp [hq], h1, h2⟩
end Go.Ri
set_option linter.unusedSimpArgs false
set_option linter.unusedVariables false
set_option linter.unusedSectionVars false
namespace Go.Ri
open Go Go.Am Go.RowKit
noncomputable def orcl (chk : Mem → Bool) (f0 : FuncId) (C : Caller) : Caller := fun f args M => bif Nat.beq f f0 then (match args with
  | [] => bif chk M then some (.returned (.bool true), M) else none
  | _ => none) else C f args M
def OrOk [SymE] (P : Program) (chk : Mem → Bool) (f0 : FuncId) : Prop := ∀ M, chk M = true → ACalls P f0 [] M.abs fun e aw' => e = .returned (.bool true) ∧ aw' = M.abs
theorem orcl_spec [SymE] {P : Program} {chk : Mem → Bool} {f0 : FuncId} (ho : OrOk P chk f0) {C : Caller} (hC : CS P C) : CS P (orcl chk f0 C) := by
  intro f args M e M' h
  unfold orcl at h
  cases hf : Nat.beq f f0 with
  | false => rw [hf] at h; exact hC _ _ _ _ _ h
  | true =>
    rw [hf] at h
    simp only [cond_true] at h
    obtain rfl := Nat.eq_of_beq_eq_true hf
    match args, h with
    | [], h =>
      rw [cond_some] at h
      obtain ⟨hc, h⟩ := h
      simp only [Option.some.injEq, Prod.mk.injEq] at h
      obtain ⟨rfl, rfl⟩ := h
      exact ho M hc
    | _ :: _, h => cases h
noncomputable def standL (l : List (Nat × List Value × Nat)) (M : Mem) : Bool := List.rec (motive := fun _ => Bool) true
  (fun p _ ih => match M.at p.1 with
    | none => false
    | some B => bif Nat.beq B.len p.2.1.length && (Nat.beq B.esz p.2.2 && (!B.rw && Nat.beq B.fz 0)) then (match B.getN p.2.1.length 0 with
      | none => false
      | some cs => bif vEq.lEq (vEq 2) cs p.2.1 then ih else false) else false) l
theorem standL_spec [SymE] {M : Mem} : ∀ {l : List (Nat × List Value × Nat)}, standL l M = true → ∀ p ∈ l, ∃ B, M.at p.1 = some B ∧ M.abs.m p.1 = some ⟨p.2.1, B.elem, p.2.2, false, 0⟩
  | [], _, p, hp => by cases hp
  | (g, cells, z) :: l, h, p, hp => by
    have h : (match M.at g with
      | none => false
      | some B => bif Nat.beq B.len cells.length && (Nat.beq B.esz z && (!B.rw && Nat.beq B.fz 0)) then (match B.getN cells.length 0 with
        | none => false
        | some cs => bif vEq.lEq (vEq 2) cs cells then standL l M else false) else false) = true := h
    split at h
    · cases h
    rename_i B hB
    cases hc : Nat.beq B.len cells.length && (Nat.beq B.esz z && (!B.rw && Nat.beq B.fz 0)) with
    | false => rw [hc] at h; cases h
    | true =>
      rw [hc] at h
      simp only [cond_true] at h
      split at h
      · cases h
      rename_i cs hcs
      cases hv : vEq.lEq (vEq 2) cs cells with
      | false => rw [hv] at h; cases h
      | true =>
        rw [hv] at h
        simp only [cond_true] at h
        simp only [Bool.and_eq_true, Nat.beq_eq, Bool.not_eq_true'] at hc
        obtain ⟨c1, c2, c3, c4⟩ := hc
        rcases List.mem_cons.1 hp with rfl | hp
        · refine ⟨B, hB, ?_⟩
          simp only
          rw [M.abs_m hB]
          have hlen : B.abs.cells.length = cells.length := by rw [B.abs_len]; exact c1
          have hg := RB.getN_spec hB (i := 0) (by omega) hcs
          have e := lEq_spec (vEq_spec 2) hv
          subst e
          have hcells : B.abs.cells = cs := by
            have hw := getN_whole (M.abs_m hB)
            rw [hlen, hg] at hw
            exact (Option.some.inj hw).symm
          rw [← hcells]
          simp only [RB.abs, Option.some.injEq, Blk.mk.injEq, and_true, true_and]
          exact ⟨c2, c3, c4⟩
        · exact standL_spec h p hp
end Go.Ri
set_option linter.unusedSimpArgs false
set_option linter.unusedVariables false
set_option linter.unusedSectionVars false
namespace Go.Am
open Go Go.RowKit
variable [SymE]
structure Makes (P : Program) (o : Oper) (cells : List Value) (elem esz : Nat) (mk : Nat → Value) : Prop where
  pl : plains cells = true
  run : ∀ (f : Operand → Value) (w : World), (execOp f o).run P w = .ok (.value (mk w.heap.size)) (w.alloc (.cells cells.toArray elem (0, 0)))
  vr : ∀ (s : Inj) (b : Nat) (e : Ent), s b = some e → e.off = 0 → VR s (mk b) (mk e.cb)
section
variable {G : Nat} {base : Nat → Prop} {w0 : World} {s : Inj} {aw : AW} {w : World}
theorem Rel.cbLt (h : Rel G base w0 s aw w) {b : Nat} {B : Blk} {e : Ent} (hb : aw.m b = some B) (he : s b = some e) : e.cb < w.heap.size := by
  obtain ⟨e', cs', fz', h1, _, h3, _⟩ := h.blk b B hb
  rw [he] at h1; obtain rfl := Option.some.inj h1
  exact (Array.getElem?_eq_some_iff.1 h3).1
theorem Rel.attach (h : Rel G base w0 s aw w) {cells : List Value} (elem esz : Nat) (hp : plains cells = true) {cb : Nat} (hcb : w.heap[cb]? = some (.cells cells.toArray elem (0, 0))) (hb : ¬ base cb)
    (hs : ∀ b B e, aw.m b = some B → s b = some e → e.cb ≠ cb) :
    ∃ s', s.le s' ∧ s' aw.next = some ⟨cb, 0, cells.length, esz⟩ ∧ Rel G base w0 s' (aw.alloc cells elem esz) w := by
  refine ⟨fun b => if b = aw.next then some ⟨cb, 0, cells.length, esz⟩ else s b, ?_, by simp, ?_⟩
  · intro b e hb
    have hne : b ≠ aw.next := by
      rintro rfl
      rw [h.fresh _ (Nat.le_refl _)] at hb; simp at hb
    simpa [hne] using hb
  have hle : s.le (fun b => if b = aw.next then some ⟨cb, 0, cells.length, esz⟩ else s b) := by
    intro b e hb
    have hne : b ≠ aw.next := by
      rintro rfl
      rw [h.fresh _ (Nat.le_refl _)] at hb; simp at hb
    simpa [hne] using hb
  refine ⟨?_, ?_, ?_, ?_, h.hbase, ?_, h.below, (h.maps.inj hle).to rfl (Nat.le_succ _) fun _ _ _ hk => hk⟩
  · intro b hb
    have hb' : aw.next + 1 ≤ b := hb
    simp only [if_neg (show ¬ b = aw.next by omega)]
    exact h.fresh b (by omega)
  · intro b hb
    have hb' : aw.next + 1 ≤ b := hb
    simp only [AW.alloc, if_neg (show ¬ b = aw.next by omega)]
    exact h.mfresh b (by omega)
  · intro b B hb'
    simp only [AW.alloc] at hb'
    by_cases hbn : b = aw.next
    · subst hbn
      simp only [if_true, Option.some.injEq] at hb'
      subst hb'
      refine ⟨⟨cb, 0, cells.length, esz⟩, cells.toArray, (0, 0), by simp, ⟨rfl, fun _ => rfl, fun _ => ⟨rfl, rfl⟩⟩, hcb, by simp, by simp, ?_, ?_⟩
      · intro i v hi
        have hv : VRs s cells cells := VRs.ofPlains hp
        obtain ⟨v', a1, a2⟩ := hv.get hi
        exact ⟨v', by simpa using a1, a2.mono hle⟩
      · intro _
        exact ⟨hb, fun _ j h1 h2 => by simp⟩
    · simp only [if_neg hbn] at hb'
      obtain ⟨e, cs', fz', h1, h2, h3, h4, h5, h6, h7⟩ := h.blk b B hb'
      refine ⟨e, cs', fz', by simpa [hbn] using h1, h2, h3, h4, h5, ?_, h7⟩
      intro i v hi
      obtain ⟨v', k1, k2⟩ := h6 i v hi
      exact ⟨v', k1, k2.mono hle⟩
  · intro b1 b2 B1 B2 e1 e2 hne hb1 hb2 he1 he2 hrw
    simp only [AW.alloc] at hb1 hb2
    by_cases h1 : b1 = aw.next
    · subst h1
      have h2 : ¬ b2 = aw.next := fun e => hne e.symm
      simp only [if_true, Option.some.injEq, if_neg h2] at he1 he2 hb2
      subst he1
      exact fun e => hs b2 B2 e2 hb2 he2 e.symm
    · simp only [if_neg h1] at hb1 he1
      by_cases h2 : b2 = aw.next
      · subst h2
        simp only [if_true, Option.some.injEq] at he2
        subst he2
        exact hs b1 B1 e1 hb1 he1
      · simp only [if_neg h2] at hb2 he2
        exact h.sep b1 b2 B1 B2 e1 e2 hne hb1 hb2 he1 he2 hrw
  · intro g hg
    obtain ⟨e, h1, h2, h3⟩ := h.glob g hg
    exact ⟨e, hle g e h1, h2, h3⟩
theorem Rel.grow (h : Rel G base w0 s aw w) (o : Obj) : Rel G base w0 s aw (w.alloc o) := by
  refine ⟨h.fresh, h.mfresh, ?_, h.sep, fun k hk => ?_, h.glob, h.below.alloc h.hbase o, h.maps.to rfl (Nat.le_refl _) map_alloc⟩
  · intro b B hb
    obtain ⟨e, cs', fz', h1, h2, h3, h4⟩ := h.blk b B hb
    refine ⟨e, cs', fz', h1, h2, ?_, h4⟩
    have := (Array.getElem?_eq_some_iff.1 h3).1
    show (w.heap.push _)[e.cb]? = _
    rw [Array.getElem?_push, if_neg (by omega)]
    exact h3
  · have := h.hbase k hk
    show k < (w.heap.push _).size
    simp; omega
theorem Maps.less {base bx : Nat → Prop} {s : Inj} {aw : AW} {w : World} (h : Maps bx s aw w) (hb : ∀ b es e, aw.mp b = some es → s b = some e → base e.cb → bx e.cb) : Maps base s aw w :=
  ⟨h.fresh, fun b es hm => by
    obtain ⟨e, xs, ck, h1, h2, h3, h4⟩ := h.ent b es hm
    exact ⟨e, xs, ck, h1, h2, fun hk => h3 (hb b es e hm h1 hk), h4⟩, h.sep⟩
theorem Rel.less {bx : Nat → Prop} (h : Rel G bx w0 s aw w) (hb : ∀ k, base k → bx k) : Rel G base w0 s aw w :=
  ⟨h.fresh, h.mfresh, fun b B hB => by
    obtain ⟨e, cs', fz', h1, h2, h3, h4, h5, h6, h7⟩ := h.blk b B hB
    exact ⟨e, cs', fz', h1, h2, h3, h4, h5, h6, fun hr => ⟨fun hk => (h7 hr).1 (hb _ hk), (h7 hr).2⟩⟩, h.sep, fun k hk => h.hbase k (hb k hk), h.glob, h.below.mono hb, h.maps.less fun _ _ e _ _ hk => hb e.cb hk⟩
theorem Maps.keep {base bx : Nat → Prop} {s : Inj} {aw : AW} {w : World} (h : Maps base s aw w) (hb : ∀ k xs ck, w.heap[k]? = some (.map xs ck) → ¬ bx k) : Maps (fun k => base k ∨ bx k) s aw w :=
  ⟨h.fresh, fun b es hm => by
    obtain ⟨e, xs, ck, h1, h2, h3, h4⟩ := h.ent b es hm
    exact ⟨e, xs, ck, h1, h2, fun hk => hk.elim h3 (hb _ _ _ h2), h4⟩, h.sep⟩
theorem Rel.keepOne (h : Rel G base w0 s aw w) {cb : Nat} (hc : cb < w.heap.size) (hs : ∀ b B e, aw.m b = some B → B.rw = true → s b = some e → e.cb ≠ cb) (hm : ∀ xs ck, w.heap[cb]? ≠ some (.map xs ck)) : Rel G (fun k => base k ∨ k = cb) w s aw w :=
  ⟨h.fresh, h.mfresh, fun b B hB => by
    obtain ⟨e, cs', fz', h1, h2, h3, h4, h5, h6, h7⟩ := h.blk b B hB
    refine ⟨e, cs', fz', h1, h2, h3, h4, h5, h6, fun hr => ⟨fun hk => ?_, (h7 hr).2⟩⟩
    rcases hk with hk | hk
    · exact (h7 hr).1 hk
    · exact hs b B e hB hr h1 hk, h.sep, fun k hk => hk.elim (h.hbase k) (fun e => e ▸ hc), h.glob, Keep.refl _ _, h.maps.keep fun k xs ck hx hk => hm xs ck (hk ▸ hx)⟩
end
section
variable {P : Program} {N : Nat} {ops : Array Oper} {i : Nat} {o : Oper} {K : Act → World → Prop} {Q : Exit → Act → World → Prop} {a â : Act} {w : World}
  {base bx : Nat → Prop} {w0 : World} {s1 : Inj} {ρ : Env} {ds : List Deferred} {aw aw' : AW} {v : Value}
theorem gen_val (ho : ops[i]? = some o) (hN : dstsOk N ops = true) (hst : St P.globals.size base w0 s1 ρ N ds aw â w) (hx : Rel P.globals.size bx w s1 aw w) (hb : ∀ k, base k → bx k)
    (hE : execOp a.eval o = execOp â.eval o) (hW : Region.wanted o (yielded ops a.tmps) = Region.wanted o (yielded ops â.tmps)) (hg : wants ops o ρ true) (hv : OpV P o ρ aw v aw')
    (hk : ∀ s' v' w', s1.le s' → St P.globals.size base w0 s' (ρ.put o.dst v) N ds aw' (â.put o.dst v') w' → Rel P.globals.size bx w s' aw' w' → K (a.put o.dst v') w') : wpOp P ops Q i K a w := by
  have hsz : ∀ (j t : Nat), (ops[j]?).bind (fun (o : Oper) => o.dst) = some t → t < â.tmps.size := fun j t hj => by rw [hst.size]; exact dstsOk_get hN hj
  have hd : ∀ d, o.dst = some d → d < N := fun d hd => dstsOk_get hN (j := i) (by simp [ho, hd])
  have hw := wants_spec hst.env hg hsz
  simp only [wpOp, ho, hW, if_pos hw]
  left
  obtain ⟨n, v', w', s', k1, k2, k3, k4, k5⟩ := hv bx w s1 â.eval w hx (fun x hx => hst.eval hx)
  have := hk s' v' w' k3 (hst.put k3 (k4.less hb) hd k5) k4
  unfold Oper.wp
  rw [hE, k1]
  rcases k2 with rfl | ⟨rfl, rfl⟩
  · exact this
  · exact this
theorem gen_skip (ho : ops[i]? = some o) (hN : dstsOk N ops = true) (hst : St P.globals.size base w0 s1 ρ N ds aw â w) (hx : Rel P.globals.size bx w s1 aw w)
    (hW : Region.wanted o (yielded ops a.tmps) = Region.wanted o (yielded ops â.tmps)) (hg : wants ops o ρ false)
    (hk : St P.globals.size base w0 s1 (ρ.put o.dst undef) N ds aw (â.put o.dst undef) w → K (a.put o.dst undef) w) : wpOp P ops Q i K a w := by
  have hsz : ∀ (j t : Nat), (ops[j]?).bind (fun (o : Oper) => o.dst) = some t → t < â.tmps.size := fun j t hj => by rw [hst.size]; exact dstsOk_get hN hj
  have hd : ∀ d, o.dst = some d → d < N := fun d hd => dstsOk_get hN (j := i) (by simp [ho, hd])
  have hw := wants_spec hst.env hg hsz
  simp only [wpOp, ho, hW, hw]
  exact hk (hst.put (Inj.le_refl s1) hst.rel.re hd VR.undef)
theorem gen_call {fid : FuncId} {args : List Value} {R : Value → AW → Prop} (ho : ops[i]? = some o) (hN : dstsOk N ops = true) (hst : St P.globals.size base w0 s1 ρ N ds aw â w) (hx : Rel P.globals.size bx w s1 aw w) (hb : ∀ k, base k → bx k)
    (hE : execOp a.eval o = execOp â.eval o) (hW : Region.wanted o (yielded ops a.tmps) = Region.wanted o (yielded ops â.tmps)) (hg : wants ops o ρ true) (hc : OpC P o ρ fid args)
    (hcall : ACalls P fid args aw fun | .returned v, aw' => R v aw' | .panicked _, _ => False)
    (hk : ∀ s' v v' aw' w', R v aw' → s1.le s' → St P.globals.size base w0 s' (ρ.put o.dst v) N ds aw' (â.put o.dst v') w' → Rel P.globals.size bx w s' aw' w' → K (a.put o.dst v') w') : wpOp P ops Q i K a w := by
  have hsz : ∀ (j t : Nat), (ops[j]?).bind (fun (o : Oper) => o.dst) = some t → t < â.tmps.size := fun j t hj => by rw [hst.size]; exact dstsOk_get hN hj
  have hd : ∀ d, o.dst = some d → d < N := fun d hd => dstsOk_get hN (j := i) (by simp [ho, hd])
  have hw := wants_spec hst.env hg hsz
  simp only [wpOp, ho, hW, if_pos hw]
  left
  obtain ⟨args', k1, k2⟩ := hc s1 â.eval w (fun x hx => hst.eval hx)
  unfold Oper.wp
  rw [hE, k1]
  refine (hcall bx w s1 args' w hx k2).mono ?_
  rintro e w' ⟨s', ae, aw2, hle, hrel, her, hq⟩
  cases her with
  | returned hvv => exact hk s' _ _ aw2 w' hq hle (hst.put hle (hrel.less hb) hd hvv) hrel
  | panicked _ => exact hq.elim
end
end Go.Am
set_option linter.unusedSimpArgs false
set_option linter.unusedVariables false
set_option linter.unusedSectionVars false
namespace Go.Am
open Go Go.RowKit
variable [SymE]
theorem Env.put_comm {ρ : Env} {x y : Option Tmp} (v u : Value) (h : ∀ d, x = some d → y ≠ some d) : (ρ.put x v).put y u = (ρ.put y u).put x v := by
  cases x with
  | none => rfl
  | some x =>
    cases y with
    | none => rfl
    | some y =>
      have hne : x ≠ y := fun e => h x rfl (e ▸ rfl)
      funext t
      simp only [Env.put_some]
      by_cases h1 : t = y
      · subst h1
        rw [if_pos rfl, if_neg (fun e => hne e.symm), if_pos rfl]
      · rw [if_neg h1]
        by_cases h2 : t = x
        · rw [if_pos h2, if_pos h2]
        · rw [if_neg h2, if_neg h2, if_neg h1]
theorem act_put_put (a : Act) (x : Tmp) (v u : Value) : (a.put (some x) v).put (some x) u = a.put (some x) u := by
  simp [Act.put]
theorem act_get_ne (a : Act) {x : Option Tmp} {d : Tmp} (v : Value) (h : x ≠ some d) : (a.put x v).tmps[d]? = a.tmps[d]? := by
  cases x with
  | none => rfl
  | some x =>
    have hne : x ≠ d := fun e => h (by rw [e])
    simp [Act.put, Array.getElem?_setIfInBounds_ne hne]
def SX (G : Nat) (base : Nat → Prop) (w0 : World) (s0 : Inj) (N : Nat) (d : Tmp) (cells : List Value) (elem : Nat) (mk : Nat → Value) (lo : Nat) : Bool → Env → List Deferred → AW → Act → World → Prop
  | false, ρ, ds, aw, a, w => ∃ s1, s0.le s1 ∧ St G base w0 s1 ρ N ds aw a w ∧ lo ≤ w.heap.size
  | true, ρ, ds, aw, a, w => ∃ s1 cb, s0.le s1 ∧ St G base w0 s1 (ρ.put (some d) undef) N ds aw (a.put (some d) undef) w ∧ w.heap[cb]? = some (.cells cells.toArray elem (0, 0)) ∧ ¬ base cb ∧ lo ≤ cb ∧ a.tmps[d]? = some (mk cb) ∧
      ∀ b B e, aw.m b = some B → B.rw = true → s1 b = some e → e.cb ≠ cb
def Early (ops : Array Oper) (d : Tmp) (o : Oper) : Prop := d ∉ looks ops o ∧ o.dst ≠ some d ∧ ∀ cs b, o.op ≠ .select cs b
section
variable {P : Program} {N : Nat} {ops : Array Oper} {i : Nat} {o : Oper} {K : Act → World → Prop} {Q : Exit → Act → World → Prop} {a : Act} {w : World}
  {base : Nat → Prop} {w0 : World} {s0 : Inj} {ρ : Env} {ds : List Deferred} {aw aw' : AW} {v : Value} {d : Tmp} {cells : List Value} {elem esz lo : Nat} {mk : Nat → Value} {m : Bool}
theorem looks_off {ρ : Env} {u : Value} (h : d ∉ looks ops o) : Agr ops o ρ (ρ.put (some d) u) := fun t ht => by
  rw [Env.put_some]
  exact if_neg (fun e => h (by rwa [← e]))
theorem SX.next {s1 s' : Inj} {cb : Nat} {v' : Value} {w' : World} (h1 : s0.le s1) (h4 : ¬ base cb) (h3 : w.heap[cb]? = some (.cells cells.toArray elem (0, 0))) (h5 : lo ≤ cb) (h6 : a.tmps[d]? = some (mk cb)) (hq : o.dst ≠ some d) (k1 : s1.le s')
    (k2 : St P.globals.size base w0 s' ((ρ.put (some d) undef).put o.dst v) N ds aw' ((a.put (some d) undef).put o.dst v') w') (k3 : Rel P.globals.size (fun k => base k ∨ k = cb) w s' aw' w') :
    SX P.globals.size base w0 s0 N d cells elem mk lo true (ρ.put o.dst v) ds aw' (a.put o.dst v') w' := by
  refine ⟨s', cb, Inj.le_trans h1 k1, ?_, (k3.below.block cb (.inr rfl)).trans h3, h4, h5, by rw [act_get_ne a v' hq]; exact h6, fun b B e hb hr he => ?_⟩
  · rw [Env.put_comm v undef (fun e he h => hq (he.trans h.symm)), Act.put_comm a v' undef (fun e he h => hq (he.trans h.symm))]
    exact k2
  · obtain ⟨e', cs, fz, g1, _, _, _, _, _, g7⟩ := k3.blk b B hb
    rw [he] at g1; obtain rfl := Option.some.inj g1
    exact fun hc => (g7 hr).1 (.inr hc)
theorem SX.val (h : SX P.globals.size base w0 s0 N d cells elem mk lo m ρ ds aw a w) (hN : dstsOk N ops = true) (ho : ops[i]? = some o) (hq : m = true → Early ops d o)
    (hv : ∀ ρ2, Agr ops o ρ ρ2 → wants ops o ρ2 true ∧ OpV P o ρ2 aw v aw') (hk : ∀ a' w', SX P.globals.size base w0 s0 N d cells elem mk lo m (ρ.put o.dst v) ds aw' a' w' → K a' w') : wpOp P ops Q i K a w := by
  cases m with
  | false =>
    obtain ⟨s1, h1, h2, h3⟩ := h
    obtain ⟨g1, g2⟩ := hv ρ (fun _ _ => rfl)
    exact gen_val ho hN h2 h2.rel.re (fun _ h => h) rfl rfl g1 g2 fun s' v' w' k1 k2 k3 => hk _ _ ⟨s', Inj.le_trans h1 k1, k2, Nat.le_trans h3 k3.below.size⟩
  | true =>
    obtain ⟨s1, cb, h1, h2, h3, h4, h5, h6, h7⟩ := h
    obtain ⟨q1, q2, q3⟩ := hq rfl
    obtain ⟨g1, g2⟩ := hv (ρ.put (some d) undef) (looks_off q1)
    have hcb : cb < w.heap.size := (Array.getElem?_eq_some_iff.1 h3).1
    have hl : ∀ e, some d = some e → e ∉ o.looksAt ops := fun e he => by obtain rfl := Option.some.inj he; exact q1
    exact gen_val ho hN h2 (h2.rel.keepOne hcb h7 fun xs ck hm => by rw [h3] at hm; cases hm) (fun _ h => .inl h) (execOp_put (ops := ops) o q3 a (some d) undef hl).symm (wanted_put o a (some d) undef hl).symm g1 g2
      fun s' v' w' k1 k2 k3 => hk _ _ (SX.next h1 h4 h3 h5 h6 q2 k1 k2 k3)
theorem SX.skip (h : SX P.globals.size base w0 s0 N d cells elem mk lo m ρ ds aw a w) (hN : dstsOk N ops = true) (ho : ops[i]? = some o) (hq : m = true → Early ops d o)
    (hv : ∀ ρ2, Agr ops o ρ ρ2 → wants ops o ρ2 false) (hk : ∀ a' w', SX P.globals.size base w0 s0 N d cells elem mk lo m (ρ.put o.dst undef) ds aw a' w' → K a' w') : wpOp P ops Q i K a w := by
  cases m with
  | false =>
    obtain ⟨s1, h1, h2, h3⟩ := h
    exact gen_skip ho hN h2 h2.rel.re rfl (hv ρ (fun _ _ => rfl)) fun k2 => hk _ _ ⟨s1, h1, k2, h3⟩
  | true =>
    obtain ⟨s1, cb, h1, h2, h3, h4, h5, h6, h7⟩ := h
    obtain ⟨q1, q2, q3⟩ := hq rfl
    have hcb : cb < w.heap.size := (Array.getElem?_eq_some_iff.1 h3).1
    have hl : ∀ e, some d = some e → e ∉ o.looksAt ops := fun e he => by obtain rfl := Option.some.inj he; exact q1
    exact gen_skip ho hN h2 h2.rel.re (wanted_put o a (some d) undef hl).symm (hv _ (looks_off q1))
      fun k2 => hk _ _ (SX.next h1 h4 h3 h5 h6 q2 (Inj.le_refl s1) k2 (h2.rel.keepOne hcb h7 fun xs ck hm => by rw [h3] at hm; cases hm))
theorem SX.call {fid : FuncId} {args : List Value} {R : Value → AW → Prop} (h : SX P.globals.size base w0 s0 N d cells elem mk lo m ρ ds aw a w) (hN : dstsOk N ops = true) (ho : ops[i]? = some o) (hq : m = true → Early ops d o)
    (hv : ∀ ρ2, Agr ops o ρ ρ2 → wants ops o ρ2 true ∧ OpC P o ρ2 fid args) (hcall : ACalls P fid args aw fun | .returned v, aw' => R v aw' | .panicked _, _ => False)
    (hk : ∀ v aw' a' w', R v aw' → SX P.globals.size base w0 s0 N d cells elem mk lo m (ρ.put o.dst v) ds aw' a' w' → K a' w') : wpOp P ops Q i K a w := by
  cases m with
  | false =>
    obtain ⟨s1, h1, h2, h3⟩ := h
    obtain ⟨g1, g2⟩ := hv ρ (fun _ _ => rfl)
    exact gen_call ho hN h2 h2.rel.re (fun _ h => h) rfl rfl g1 g2 hcall fun s' v v' aw' w' hr k1 k2 k3 => hk _ _ _ _ hr ⟨s', Inj.le_trans h1 k1, k2, Nat.le_trans h3 k3.below.size⟩
  | true =>
    obtain ⟨s1, cb, h1, h2, h3, h4, h5, h6, h7⟩ := h
    obtain ⟨q1, q2, q3⟩ := hq rfl
    obtain ⟨g1, g2⟩ := hv (ρ.put (some d) undef) (looks_off q1)
    have hcb : cb < w.heap.size := (Array.getElem?_eq_some_iff.1 h3).1
    have hl : ∀ e, some d = some e → e ∉ o.looksAt ops := fun e he => by obtain rfl := Option.some.inj he; exact q1
    exact gen_call ho hN h2 (h2.rel.keepOne hcb h7 fun xs ck hm => by rw [h3] at hm; cases hm) (fun _ h => .inl h) (execOp_put (ops := ops) o q3 a (some d) undef hl).symm (wanted_put o a (some d) undef hl).symm g1 g2 hcall
      fun s' v v' aw' w' hr k1 k2 k3 => hk _ _ _ _ hr (SX.next h1 h4 h3 h5 h6 q2 k1 k2 k3)
theorem SX.read (h : SX P.globals.size base w0 s0 N d cells elem mk lo m ρ ds aw a w) (hN : dstsOk N ops = true) (ho : ops[i]? = some o) (hq : m = true → Early ops d o)
    (hv : ∀ ρ2, Agr ops o ρ ρ2 → (wants ops o ρ2 true ∧ OpV P o ρ2 aw v aw) ∨ (wants ops o ρ2 false ∧ v = undef) ∨ (wants ops o ρ2 true ∧ ∃ fid args, OpC P o ρ2 fid args ∧ ACalls P fid args aw fun e aw' => e = .returned v ∧ aw' = aw))
    (hk : ∀ a' w', SX P.globals.size base w0 s0 N d cells elem mk lo m (ρ.put o.dst v) ds aw a' w' → K a' w') : wpOp P ops Q i K a w := by
  cases m with
  | false =>
    obtain ⟨s1, h1, h2, h3⟩ := h
    rcases hv ρ (fun _ _ => rfl) with ⟨g1, g2⟩ | ⟨g1, rfl⟩ | ⟨g1, fid, args, g2, g3⟩
    · exact gen_val ho hN h2 h2.rel.re (fun _ h => h) rfl rfl g1 g2 fun s' v' w' k1 k2 k3 => hk _ _ ⟨s', Inj.le_trans h1 k1, k2, Nat.le_trans h3 k3.below.size⟩
    · exact gen_skip ho hN h2 h2.rel.re rfl g1 fun k2 => hk _ _ ⟨s1, h1, k2, h3⟩
    · refine gen_call (R := fun u aw' => u = v ∧ aw' = aw) ho hN h2 h2.rel.re (fun _ h => h) rfl rfl g1 g2 (g3.mono fun e aw' he => by obtain ⟨rfl, rfl⟩ := he; exact ⟨rfl, rfl⟩) ?_
      rintro s' u v' aw' w' ⟨rfl, rfl⟩ k1 k2 k3
      exact hk _ _ ⟨s', Inj.le_trans h1 k1, k2, Nat.le_trans h3 k3.below.size⟩
  | true =>
    obtain ⟨s1, cb, h1, h2, h3, h4, h5, h6, h7⟩ := h
    obtain ⟨q1, q2, q3⟩ := hq rfl
    have hcb : cb < w.heap.size := (Array.getElem?_eq_some_iff.1 h3).1
    have hl : ∀ e, some d = some e → e ∉ o.looksAt ops := fun e he => by obtain rfl := Option.some.inj he; exact q1
    have hE := (execOp_put (ops := ops) o q3 a (some d) undef hl).symm
    have hW := (wanted_put o a (some d) undef hl).symm
    rcases hv (ρ.put (some d) undef) (looks_off q1) with ⟨g1, g2⟩ | ⟨g1, rfl⟩ | ⟨g1, fid, args, g2, g3⟩
    · exact gen_val ho hN h2 (h2.rel.keepOne hcb h7 fun xs ck hm => by rw [h3] at hm; cases hm) (fun _ h => .inl h) hE hW g1 g2 fun s' v' w' k1 k2 k3 => hk _ _ (SX.next h1 h4 h3 h5 h6 q2 k1 k2 k3)
    · exact gen_skip ho hN h2 h2.rel.re hW g1 fun k2 => hk _ _ (SX.next h1 h4 h3 h5 h6 q2 (Inj.le_refl s1) k2 (h2.rel.keepOne hcb h7 fun xs ck hm => by rw [h3] at hm; cases hm))
    · refine gen_call (R := fun u aw' => u = v ∧ aw' = aw) ho hN h2 (h2.rel.keepOne hcb h7 fun xs ck hm => by rw [h3] at hm; cases hm) (fun _ h => .inl h) hE hW g1 g2 (g3.mono fun e aw' he => by obtain ⟨rfl, rfl⟩ := he; exact ⟨rfl, rfl⟩) ?_
      rintro s' u v' aw' w' ⟨rfl, rfl⟩ k1 k2 k3
      exact hk _ _ (SX.next h1 h4 h3 h5 h6 q2 k1 k2 k3)
theorem SX.make (h : SX P.globals.size base w0 s0 N d cells elem mk lo false ρ ds aw a w) (ho : ops[i]? = some o) (hg : o.guard = none) (hd : o.dst = some d) (hdN : d < N) (hm : Makes P o cells elem esz mk)
    (hk : ∀ a' w', SX P.globals.size base w0 s0 N d cells elem mk lo true ρ ds aw a' w' → K a' w') : wpOp P ops Q i K a w := by
  obtain ⟨s1, h1, h2, h3⟩ := h
  have hw : Region.wanted o (yielded ops a.tmps) = true := by unfold Region.wanted; rw [hg]
  simp only [wpOp, ho, if_pos hw]
  left
  unfold Oper.wp
  rw [hm.run a.eval w]
  have hda : d < a.tmps.size := by rw [h2.size]; exact hdN
  refine hk _ _ ⟨s1, w.heap.size, h1, ?_, ?_, fun hb => absurd (h2.rel.hbase _ hb) (Nat.lt_irrefl _), h3, ?_, fun b B e hb hr he => ?_⟩
  · rw [hd, act_put_put]
    refine ⟨h2.rel.grow _, put_env h2.env (fun e he => by obtain rfl := Option.some.inj he; exact hda) VR.undef, by rw [put_size]; exact h2.size, by rw [put_defers]; exact h2.dfr, ?_, by rw [put_defers]; exact h2.nd⟩
    rw [put_defers]
    intro r hr
    obtain ⟨g1, g2⟩ := h2.mrk r hr
    exact ⟨g1, by rw [Below.heap_alloc _ _ _ (Array.getElem?_eq_some_iff.1 g2).1]; exact g2⟩
  · show (w.heap.push _)[w.heap.size]? = _
    simp
  · rw [hd]; simp [Act.put, hda]
  · have := h2.rel.cbLt hb he
    omega
theorem SX.meet {wS : World} {awS : AW} (h : SX P.globals.size base w0 s0 N d cells elem mk wS.heap.size true ρ ds aw a w) (hS : Rel P.globals.size base w0 s0 awS wS) (hm : Makes P o cells elem esz mk)
    (hro : ∀ b B, b < aw.next → aw.m b = some B → B.rw = false → ∃ B0, awS.m b = some B0) :
    ∃ s', s0.le s' ∧ St P.globals.size base w0 s' (ρ.put (some d) (mk aw.next)) N ds (aw.alloc cells elem esz) a w := by
  obtain ⟨s1, cb, h1, h2, h3, h4, h5, h6, h7⟩ := h
  obtain ⟨s', k1, k2, k3⟩ := h2.rel.attach elem esz hm.pl h3 h4 (fun b B e hb he => by
    cases hr : B.rw with
    | true => exact h7 b B e hb hr he
    | false =>
      have hlt : b < aw.next := by
        rcases Nat.lt_or_ge b aw.next with h | h
        · exact h
        · rw [h2.rel.mfresh b h] at hb; cases hb
      obtain ⟨B0, hB0⟩ := hro b B hlt hb hr
      obtain ⟨e0, cs, fz, g1, _⟩ := hS.blk b B0 hB0
      have g2 := h1 b e0 g1
      rw [he] at g2; obtain rfl := Option.some.inj g2
      have := hS.cbLt hB0 g1
      omega)
  refine ⟨s', Inj.le_trans h1 k1, k3, fun t => ?_, by have := h2.size; rwa [put_size] at this, by have := h2.dfr.mono k1; rwa [put_defers] at this, by have := h2.mrk; rwa [put_defers] at this, by have := h2.nd; rwa [put_defers] at this⟩
  rw [put_at]
  by_cases ht : t = d
  · rw [if_pos ht, ht]
    have : a.tmps.getD d undef = mk cb := by
      have := (Array.getElem?_eq_some_iff.1 h6)
      obtain ⟨q1, q2⟩ := this
      simp [Array.getD, q1, q2]
    rw [this]
    exact hm.vr s' _ _ k2 rfl
  · rw [if_neg ht]
    have := (h2.env t).mono k1
    rw [put_at, if_neg ht] at this
    have e : (a.put (some d) undef).tmps.getD t undef = a.tmps.getD t undef := by
      have := act_get_ne a (x := some d) (d := t) undef (fun e => ht (Option.some.inj e).symm)
      simp only [Array.getD_eq_getD_getElem?, this]
    rwa [e] at this
end
end Go.Am
set_option linter.unusedSimpArgs false
set_option linter.unusedVariables false
set_option linter.unusedSectionVars false
namespace Go.Am
open Go Go.RowKit
variable [SymE]
section
variable {P : Program} {N : Nat} {ops : Array Oper} {hs : List Nat} {Kn : Env → List Deferred → AW → Prop} {Kp : List PanicEntry → Env → List Deferred → AW → Prop}
  {base : Nat → Prop} {w0 : World} {s0 : Inj} {d : Tmp} {cells : List Value} {elem esz x : Nat} {mk : Nat → Value} {qx nhx : List Nat} {post : Tl} {wS : World} {awS : AW} {ox : Oper}
end
def notSel : Op → Bool
  | .select _ _ => false
  | _ => true
section
variable {P : Program} {N : Nat} {ops : Array Oper} {k : List Item} {ρ : Env} {ds : List Deferred} {aw : AW} {d : Tmp} {cells : List Value} {elem esz x : Nat} {mk : Nat → Value} {p qx nhx : List Nat} {pre post : Tl} {ox : Oper}
end
end Go.Am
set_option linter.unusedSimpArgs false
set_option linter.unusedVariables false
set_option linter.unusedSectionVars false
namespace Go.Ri
open Go Go.Am Go.RowKit
variable [SymE] [FT] [FTok]
noncomputable def roAt (M M1 : Mem) (b : Nat) : Bool := match M1.at b with
  | none => true
  | some B => bif B.rw then true else (match M.at b with
    | none => false
    | some _ => true)
noncomputable def roChk (M M1 : Mem) (k : Nat) : Nat → Bool := Nat.rec (motive := fun _ => Nat → Bool) (fun b => roAt M M1 b) (fun k ih b => Bool.rec (motive := fun _ => Bool) false (ih (Nat.add b (Nat.pow 2 k))) (ih b)) k
noncomputable def roOk (M M1 : Mem) : Bool := roChk M M1 (Nat.succ (Nat.log2 M1.next)) 0
theorem roChk_spec {M M1 : Mem} : ∀ {k b : Nat}, roChk M M1 k b = true → ∀ c, b ≤ c → c < b + 2 ^ k → roAt M M1 c = true
  | 0, b, h, c, h1, h2 => by
    obtain rfl : c = b := by simp at h2; omega
    exact h
  | k + 1, b, h, c, h1, h2 => by
    have h : Bool.rec (motive := fun _ => Bool) false (roChk M M1 k (b + 2 ^ k)) (roChk M M1 k b) = true := h
    cases hb : roChk M M1 k b with
    | false => rw [hb] at h; cases h
    | true =>
      rw [hb] at h
      by_cases hc : c < b + 2 ^ k
      · exact roChk_spec hb c h1 hc
      · exact roChk_spec h c (by omega) (by rw [Nat.pow_succ] at h2; omega)
theorem roOk_spec {M M1 : Mem} (h : roOk M M1 = true) (b : Nat) (B : Blk) (hb : b < M1.abs.next) (hB : M1.abs.m b = some B) (hr : B.rw = false) : ∃ B0, M.abs.m b = some B0 := by
  have hlt : b < 2 ^ (Nat.log2 M1.next + 1) := Nat.lt_of_lt_of_le hb (Nat.le_of_lt Nat.lt_log2_self)
  have := roChk_spec h b (Nat.zero_le _) (by rw [Nat.zero_add]; exact hlt)
  unfold roAt at this
  have hB : (M1.at b).map RB.abs = some B := hB
  cases h1 : M1.at b with
  | none => rw [h1] at hB; cases hB
  | some C =>
    rw [h1] at hB this
    simp only [Option.map_some, Option.some.injEq] at hB
    subst hB
    have hr : C.rw = false := hr
    simp only [hr, cond_false] at this
    cases h0 : M.at b with
    | none => rw [h0] at this; cases this
    | some C0 => exact ⟨C0.abs, M.abs_m h0⟩
section
variable {P : Program} {X : Exts} {C : Caller} {N : Nat} {ops : Array Oper} {Kn : Env → List Deferred → AW → Prop} {Kp : List PanicEntry → Env → List Deferred → AW → Prop}
end
end Go.Ri
set_option linter.unusedSimpArgs false
set_option linter.unusedVariables false
set_option linter.unusedSectionVars false
namespace Go.Am
open Go Go.RowKit
variable [SymE]
structure Flo where
  x : Nat
  d : Tmp
  cells : List Value
  elem : Nat
  esz : Nat
  ref : Nat → Value
structure MakesR (P : Program) (ops : Array Oper) (o : Oper) (ρ : Env) (F : Flo) : Prop where
  pl : plains F.cells = true
  run : ∀ (ρ' : Env), Agr ops o ρ ρ' → ∀ (s : Inj) (f : Operand → Value) (w : World), (∀ y, okOpd P.globals.size y = true → VR s (ρ'.eval y) (f y)) → (execOp f o).run P w = .ok (.value (F.ref w.heap.size)) (w.alloc (.cells F.cells.toArray F.elem (0, 0)))
  vr : ∀ (s : Inj) (b : Nat) (e : Ent), s b = some e → e.off = 0 → VR s (F.ref b) (F.ref e.cb)
def hide (D : List Tmp) (ρ : Env) : Env := fun t => if t ∈ D then undef else ρ t
def hideA : List Tmp → Act → Act
  | [], a => a
  | d :: D, a => (hideA D a).put (some d) undef
theorem hide_put {D : List Tmp} {ρ : Env} {x : Option Tmp} {v : Value} (h : ∀ d ∈ D, x ≠ some d) : hide D (ρ.put x v) = (hide D ρ).put x v := by
  cases x with
  | none => rfl
  | some x =>
    funext t
    simp only [hide, Env.put_some]
    by_cases ht : t ∈ D
    · rw [if_pos ht, if_pos ht, if_neg]
      rintro rfl
      exact h _ ht rfl
    · rw [if_neg ht, if_neg ht]
theorem hideA_put {x : Option Tmp} {v : Value} : ∀ {D : List Tmp} {a : Act}, (∀ d ∈ D, x ≠ some d) → hideA D (a.put x v) = (hideA D a).put x v
  | [], _, _ => rfl
  | d :: D, a, h => by
    simp only [hideA]
    rw [hideA_put (fun e he => h e (List.mem_cons_of_mem _ he)), Act.put_comm _ v undef (fun e he h' => h d (List.mem_cons_self ..) (he.trans (by rw [← h'])))]
theorem hideA_size : ∀ (D : List Tmp) (a : Act), (hideA D a).tmps.size = a.tmps.size
  | [], _ => rfl
  | d :: D, a => by simp only [hideA, put_size, hideA_size D a]
theorem hideA_defers : ∀ (D : List Tmp) (a : Act), (hideA D a).defers = a.defers
  | [], _ => rfl
  | d :: D, a => by simp only [hideA, put_defers, hideA_defers D a]
theorem put_getD_undef (a : Act) (d t : Tmp) : (a.put (some d) undef).tmps.getD t undef = if t = d then undef else a.tmps.getD t undef := by
  by_cases h : t = d
  · subst h
    rw [if_pos rfl]
    simp only [Act.put, Array.getD_eq_getD_getElem?, Array.getElem?_setIfInBounds]
    simp only [if_true]
    split <;> rfl
  · rw [if_neg h]
    simp only [Act.put, Array.getD_eq_getD_getElem?, Array.getElem?_setIfInBounds]
    rw [if_neg (fun e => h e.symm)]
theorem hideA_getD : ∀ (D : List Tmp) (a : Act) (t : Tmp), (hideA D a).tmps.getD t undef = if t ∈ D then undef else a.tmps.getD t undef
  | [], _, _ => by simp [hideA]
  | d :: D, a, t => by
    simp only [hideA]
    rw [put_getD_undef, hideA_getD D a t]
    by_cases h : t = d
    · rw [if_pos h, if_pos (by rw [h]; exact List.mem_cons_self ..)]
    · rw [if_neg h]
      by_cases h2 : t ∈ D
      · rw [if_pos h2, if_pos (List.mem_cons_of_mem _ h2)]
      · rw [if_neg h2, if_neg (fun hm => (List.mem_cons.1 hm).elim h h2)]
section
variable {ops : Array Oper} {o : Oper}
theorem execOp_hide (hs : ∀ cs b, o.op ≠ .select cs b) : ∀ {D : List Tmp} (a : Act), (∀ d ∈ D, d ∉ looks ops o) → execOp a.eval o = execOp (hideA D a).eval o
  | [], _, _ => rfl
  | d :: D, a, h => by
    simp only [hideA]
    rw [execOp_put (ops := ops) o hs (hideA D a) (some d) undef (fun e he => by obtain rfl := Option.some.inj he; exact h d (List.mem_cons_self ..))]
    exact execOp_hide hs a (fun e he => h e (List.mem_cons_of_mem _ he))
theorem wanted_hide : ∀ {D : List Tmp} (a : Act), (∀ d ∈ D, d ∉ looks ops o) → Region.wanted o (yielded ops a.tmps) = Region.wanted o (yielded ops (hideA D a).tmps)
  | [], _, _ => rfl
  | d :: D, a, h => by
    simp only [hideA]
    rw [wanted_put o (hideA D a) (some d) undef (fun e he => by obtain rfl := Option.some.inj he; exact h d (List.mem_cons_self ..))]
    exact wanted_hide a (fun e he => h e (List.mem_cons_of_mem _ he))
theorem looks_hide {D : List Tmp} {ρ : Env} (h : ∀ d ∈ D, d ∉ looks ops o) : Agr ops o ρ (hide D ρ) := fun t ht => by
  unfold hide
  rw [if_neg (fun hm => h t hm ht)]
end
section
variable {G : Nat} {base : Nat → Prop} {w0 : World} {s : Inj} {aw : AW} {w : World}
theorem Rel.keepAll (h : Rel G base w0 s aw w) {L : List Nat} (hc : ∀ c ∈ L, c < w.heap.size) (hs : ∀ b B e, aw.m b = some B → B.rw = true → s b = some e → e.cb ∉ L) (hm : ∀ c ∈ L, ∀ xs ck, w.heap[c]? ≠ some (.map xs ck)) : Rel G (fun k => base k ∨ k ∈ L) w s aw w :=
  ⟨h.fresh, h.mfresh, fun b B hB => by
    obtain ⟨e, cs', fz', h1, h2, h3, h4, h5, h6, h7⟩ := h.blk b B hB
    refine ⟨e, cs', fz', h1, h2, h3, h4, h5, h6, fun hr => ⟨fun hk => ?_, (h7 hr).2⟩⟩
    rcases hk with hk | hk
    · exact (h7 hr).1 hk
    · exact hs b B e hB hr h1 hk, h.sep, fun k hk => hk.elim (h.hbase k) (hc k), h.glob, Keep.refl _ _, h.maps.keep fun k xs ck hx hk => hm k hk xs ck hx⟩
end
abbrev Apt := List (Flo × Nat)
abbrev Apt.ds (A : Apt) : List Tmp := A.map fun p => p.1.d
abbrev Apt.cbs (A : Apt) : List Nat := A.map fun p => p.2
structure SG (G : Nat) (base : Nat → Prop) (w0 : World) (s0 : Inj) (N : Nat) (A : Apt) (lo : Nat) (ρ : Env) (ds : List Deferred) (aw : AW) (a : Act) (w : World) : Prop where
  ex : ∃ s1, s0.le s1 ∧ St G base w0 s1 (hide A.ds ρ) N ds aw (hideA A.ds a) w
  low : lo ≤ w.heap.size
  apt : ∀ p ∈ A, w.heap[p.2]? = some (.cells p.1.cells.toArray p.1.elem (0, 0)) ∧ ¬ base p.2 ∧ lo ≤ p.2 ∧ a.tmps[p.1.d]? = some (p.1.ref p.2)
  nd : A.cbs.Nodup
section
variable {P : Program} {N : Nat} {ops : Array Oper} {i : Nat} {o : Oper} {K : Act → World → Prop} {Q : Exit → Act → World → Prop} {a : Act} {w wS : World}
  {base : Nat → Prop} {w0 : World} {s0 : Inj} {ρ : Env} {ds : List Deferred} {aw : AW} {v : Value} {A : Apt}
theorem SG.read (h : SG P.globals.size base w0 s0 N A wS.heap.size ρ ds aw a w) (hS : Rel P.globals.size base w0 s0 aw wS) (hN : dstsOk N ops = true) (ho : ops[i]? = some o) (hq : ∀ p ∈ A, Early ops p.1.d o)
    (hv : ∀ ρ2, Agr ops o ρ ρ2 → (wants ops o ρ2 true ∧ OpV P o ρ2 aw v aw) ∨ (wants ops o ρ2 false ∧ v = undef) ∨ (wants ops o ρ2 true ∧ ∃ fid args, OpC P o ρ2 fid args ∧ ACalls P fid args aw fun e aw' => e = .returned v ∧ aw' = aw))
    (hk : ∀ a' w', SG P.globals.size base w0 s0 N A wS.heap.size (ρ.put o.dst v) ds aw a' w' → K a' w') : wpOp P ops Q i K a w := by
  obtain ⟨⟨s1, h1, h2⟩, h3, h4, h5⟩ := h
  have hdn : ∀ d ∈ A.ds, o.dst ≠ some d := fun d hd => by
    obtain ⟨p, hp, rfl⟩ := List.mem_map.1 hd
    exact (hq p hp).2.1
  have hdl : ∀ d ∈ A.ds, d ∉ looks ops o := fun d hd => by
    obtain ⟨p, hp, rfl⟩ := List.mem_map.1 hd
    exact (hq p hp).1
  rcases Classical.em (A = []) with hA | hA
  · subst hA
    rcases hv (hide [] ρ) (looks_hide hdl) with ⟨g1, g2⟩ | ⟨g1, rfl⟩ | ⟨g1, fid, args, g2, g3⟩
    · exact gen_val ho hN h2 h2.rel.re (fun _ h => h) rfl rfl g1 g2 fun s' v' w' k1 k2 k3 => hk _ _ ⟨⟨s', Inj.le_trans h1 k1, by rw [hide_put (fun d hd => hdn d hd), hideA_put (fun d hd => hdn d hd)]; exact k2⟩, Nat.le_trans h3 k3.below.size, (fun p hp => by cases hp), List.nodup_nil⟩
    · exact gen_skip ho hN h2 h2.rel.re rfl g1 fun k2 => hk _ _ ⟨⟨s1, h1, by rw [hide_put (fun d hd => hdn d hd), hideA_put (fun d hd => hdn d hd)]; exact k2⟩, h3, (fun p hp => by cases hp), List.nodup_nil⟩
    · refine gen_call (R := fun u aw' => u = v ∧ aw' = aw) ho hN h2 h2.rel.re (fun _ h => h) rfl rfl g1 g2 (g3.mono fun e aw' he => by obtain ⟨rfl, rfl⟩ := he; exact ⟨rfl, rfl⟩) ?_
      rintro s' u v' aw' w' ⟨rfl, rfl⟩ k1 k2 k3
      exact hk _ _ ⟨⟨s', Inj.le_trans h1 k1, by rw [hide_put (fun d hd => hdn d hd), hideA_put (fun d hd => hdn d hd)]; exact k2⟩, Nat.le_trans h3 k3.below.size, (fun p hp => by cases hp), List.nodup_nil⟩
  · have hsel : ∀ cs b, o.op ≠ .select cs b := by
      cases A with
      | nil => exact absurd rfl hA
      | cons p0 A0 => exact (hq p0 (List.mem_cons_self ..)).2.2
    have hE : execOp a.eval o = execOp (hideA A.ds a).eval o := execOp_hide hsel a hdl
    have hW : Region.wanted o (yielded ops a.tmps) = Region.wanted o (yielded ops (hideA A.ds a).tmps) := wanted_hide a hdl
    have hx : Rel P.globals.size (fun k => base k ∨ k ∈ A.cbs) w s1 aw w := h2.rel.keepAll (fun c hc => by
      obtain ⟨p, hp, rfl⟩ := List.mem_map.1 hc
      exact (Array.getElem?_eq_some_iff.1 (h4 p hp).1).1) (fun b B e hb hr he hm => by
      obtain ⟨p, hp, hpe⟩ := List.mem_map.1 hm
      obtain ⟨e0, cs, fz, g1, _⟩ := hS.blk b B hb
      have g2 := h1 b e0 g1
      rw [he] at g2; obtain rfl := Option.some.inj g2
      have := hS.cbLt hb g1
      have := (h4 p hp).2.2.1
      omega) (fun c hc xs ck hm => by
      obtain ⟨p, hp, rfl⟩ := List.mem_map.1 hc
      rw [(h4 p hp).1] at hm; cases hm)
    have fin : ∀ s' v' w', s1.le s' → St P.globals.size base w0 s' ((hide A.ds ρ).put o.dst v) N ds aw ((hideA A.ds a).put o.dst v') w' → Rel P.globals.size (fun k => base k ∨ k ∈ A.cbs) w s' aw w' → K (a.put o.dst v') w' := fun s' v' w' k1 k2 k3 => by
      refine hk _ _ ⟨⟨s', Inj.le_trans h1 k1, by rw [hide_put hdn, hideA_put hdn]; exact k2⟩, Nat.le_trans h3 k3.below.size, fun p hp => ?_, h5⟩
      obtain ⟨q1, q2, q3, q4⟩ := h4 p hp
      exact ⟨(k3.below.block p.2 (.inr (List.mem_map.2 ⟨p, hp, rfl⟩))).trans q1, q2, q3, by rw [act_get_ne a v' (hq p hp).2.1]; exact q4⟩
    rcases hv (hide A.ds ρ) (looks_hide hdl) with ⟨g1, g2⟩ | ⟨g1, rfl⟩ | ⟨g1, fid, args, g2, g3⟩
    · exact gen_val ho hN h2 hx (fun _ h => .inl h) hE hW g1 g2 fin
    · exact gen_skip ho hN h2 h2.rel.re hW g1 fun k2 => fin s1 undef w (Inj.le_refl s1) k2 hx
    · refine gen_call (R := fun u aw' => u = v ∧ aw' = aw) ho hN h2 hx (fun _ h => .inl h) hE hW g1 g2 (g3.mono fun e aw' he => by obtain ⟨rfl, rfl⟩ := he; exact ⟨rfl, rfl⟩) ?_
      rintro s' u v' aw' w' ⟨rfl, rfl⟩ k1 k2 k3
      exact fin s' v' w' k1 k2 k3
theorem SG.make {F : Flo} (h : SG P.globals.size base w0 s0 N A wS.heap.size ρ ds aw a w) (ho : ops[i]? = some o) (hg : o.guard = none) (hd : o.dst = some F.d) (hdN : F.d < N) (hm : MakesR P ops o ρ F) (hnew : F.d ∉ A.ds)
    (hsel : ∀ cs b, o.op ≠ .select cs b) (hdl : ∀ d ∈ A.ds, d ∉ looks ops o)
    (hk : ∀ a' w' cb, SG P.globals.size base w0 s0 N ((F, cb) :: A) wS.heap.size ρ ds aw a' w' → K a' w') : wpOp P ops Q i K a w := by
  obtain ⟨⟨s1, h1, h2⟩, h3, h4, h5⟩ := h
  have hw : Region.wanted o (yielded ops a.tmps) = true := by unfold Region.wanted; rw [hg]
  have hE : execOp a.eval o = execOp (hideA A.ds a).eval o := execOp_hide hsel a hdl
  simp only [wpOp, ho, if_pos hw]
  left
  unfold Oper.wp
  rw [hE, hm.run (hide A.ds ρ) (looks_hide hdl) s1 _ w (fun y hy => h2.eval hy)]
  have hda : F.d < a.tmps.size := by have := h2.size; rw [hideA_size] at this; rw [this]; exact hdN
  refine hk _ _ w.heap.size ⟨⟨s1, h1, ?_⟩, ?_, ?_, ?_⟩
  · have e1 : hide (Apt.ds ((F, w.heap.size) :: A)) ρ = (hide A.ds ρ).put (some F.d) undef := by
      funext t
      simp only [hide, Env.put_some, Apt.ds, List.map_cons, List.mem_cons]
      by_cases ht : t = F.d
      · rw [if_pos (.inl ht), if_pos ht]
      · rw [if_neg ht]
        by_cases ht2 : t ∈ List.map (fun p : Flo × Nat => p.1.d) A
        · rw [if_pos (.inr ht2), if_pos ht2]
        · rw [if_neg (fun h => h.elim ht ht2), if_neg ht2]
    have e2 : hideA (Apt.ds ((F, w.heap.size) :: A)) (a.put o.dst (F.ref w.heap.size)) = (hideA A.ds a).put (some F.d) undef := by
      show (hideA A.ds (a.put o.dst (F.ref w.heap.size))).put (some F.d) undef = _
      rw [hd, hideA_put (fun d hd' h' => hnew (by obtain rfl := Option.some.inj h'; exact hd')), act_put_put]
    rw [e1, e2]
    refine ⟨h2.rel.grow _, put_env h2.env (fun e he => by obtain rfl := Option.some.inj he; rw [hideA_size]; exact hda) VR.undef, by rw [put_size]; exact h2.size, by rw [put_defers]; exact h2.dfr, ?_, by rw [put_defers]; exact h2.nd⟩
    rw [put_defers]
    intro r hr
    obtain ⟨g1, g2⟩ := h2.mrk r hr
    exact ⟨g1, by rw [Below.heap_alloc _ _ _ (Array.getElem?_eq_some_iff.1 g2).1]; exact g2⟩
  · show wS.heap.size ≤ (w.heap.push _).size
    simp; omega
  · intro p hp
    rcases List.mem_cons.1 hp with rfl | hp
    · refine ⟨?_, fun hb => absurd (h2.rel.hbase _ hb) (Nat.lt_irrefl _), h3, ?_⟩
      · show (w.heap.push _)[w.heap.size]? = _
        simp
      · rw [hd]; simp [Act.put, hda]
    · obtain ⟨q1, q2, q3, q4⟩ := h4 p hp
      refine ⟨by rw [Below.heap_alloc _ _ _ (Array.getElem?_eq_some_iff.1 q1).1]; exact q1, q2, q3, ?_⟩
      rw [hd, act_get_ne a _ (fun h => hnew (by obtain h := Option.some.inj h; rw [h]; exact List.mem_map.2 ⟨p, hp, rfl⟩))]
      exact q4
  · simp only [Apt.cbs, List.map_cons, List.nodup_cons]
    refine ⟨fun hm => ?_, h5⟩
    obtain ⟨p, hp, hpe⟩ := List.mem_map.1 hm
    have := (Array.getElem?_eq_some_iff.1 (h4 p hp).1).1
    omega
end
section
variable {G N : Nat} {base : Nat → Prop} {w0 : World} {ds : List Deferred} {a : Act} {w : World}
end
end Go.Am
set_option linter.unusedSimpArgs false
set_option linter.unusedVariables false
set_option linter.unusedSectionVars false
namespace Go.Am
open Go Go.RowKit
variable [SymE]
section
variable {P : Program} {N : Nat} {ops : Array Oper} {hs : List Nat} {Kn : Env → List Deferred → AW → Prop} {Kp : List PanicEntry → Env → List Deferred → AW → Prop}
  {base : Nat → Prop} {w0 : World} {s0 : Inj} {wS : World} {aw : AW} {ρ : Env} {ds : List Deferred} {xs : List Flo} {p q nh : List Nat} {post : Tl}
end
section
variable {P : Program} {N : Nat} {ops : Array Oper} {k : List Item} {ρ : Env} {ds : List Deferred} {aw : AW} {xs : List Flo} {p q nh : List Nat} {post : Tl}
end
end Go.Am
set_option linter.unusedSimpArgs false
set_option linter.unusedVariables false
set_option linter.unusedSectionVars false
namespace Go.Ri
open Go Go.Am Go.RowKit
variable [SymE] [FT] [FTok]
noncomputable def floOf (P : Program) (ρ : Env) (o : Oper) (i : Nat) (d : Tmp) : Option Flo := match o.op with
  | .alloc t => (match (P.info? t).bind (·.zero) with
    | some z => bif plains (cellsL z) then some ⟨i, d, cellsL z, t, 0, fun b => .pointer (some ⟨b, 0, none⟩)⟩ else none
    | none => none)
  | .makeSlice t x y => (match okv P.globals.size ρ x with
    | some (.int _ (.ofNat m)) => (match okv P.globals.size ρ y with
      | some (.int _ (.ofNat cp)) => (match P.underlying t with
        | some (.slice el) => (match (P.info? el).map (·.size) with
          | none => none
          | some size => (match (P.info? el).map (·.bytes) with
            | none => none
            | some bytes => (match (P.info? el).bind (·.zero) with
              | none => none
              | some z => bif plains (cellsL z) && (Nat.ble m cp && (Nat.blt 0 size && (Nat.beq (cellsL z).length size && (Nat.ble (bytes * cp) 140737488355328 && Nat.blt cp 1152921504606846976)))) then
                  some ⟨i, d, zeros (cellsL z) cp, el, size, fun b => .slice (some ⟨b, 0, none⟩) m cp⟩ else none)))
        | _ => none)
      | _ => none)
    | _ => none)
  | _ => none
theorem floOf_xd {P : Program} {ρ : Env} {o : Oper} {i : Nat} {d : Tmp} {F : Flo} (h : floOf P ρ o i d = some F) : F.x = i ∧ F.d = d := by
  unfold floOf at h
  split at h
  · split at h
    · rw [cond_some] at h
      obtain ⟨_, h⟩ := h
      simp only [Option.some.injEq] at h; subst h; exact ⟨rfl, rfl⟩
    · cases h
  · (repeat' split at h) <;> first | cases h | (rw [cond_some] at h; obtain ⟨_, h⟩ := h; simp only [Option.some.injEq] at h; subst h; exact ⟨rfl, rfl⟩)
  · cases h
theorem agr_opd {P : Program} {ops : Array Oper} {o : Oper} {ρ ρ' : Env} (hag : Agr ops o ρ ρ') {x : Operand} (hx : x ∈ o.op.operands.toList) : ρ'.eval x = ρ.eval x := by
  cases x with
  | tmp t =>
    refine hag t ?_
    unfold looks
    refine List.mem_append.2 (.inl (List.mem_filterMap.2 ⟨_, hx, rfl⟩))
  | const v => rfl
  | global g => rfl
  | func f => rfl
theorem floOf_spec {P : Program} {ops : Array Oper} {ρ : Env} {o : Oper} {i : Nat} {d : Tmp} {F : Flo} (h : floOf P ρ o i d = some F) : MakesR P ops o ρ F := by
  unfold floOf at h
  split at h
  · rename_i t hop
    split at h
    · rename_i z hz
      rw [cond_some] at h
      obtain ⟨hp, h⟩ := h
      simp only [Option.some.injEq] at h; subst h
      have hcl : cellsL z = z.cells.toList := cellsL_eq z
      refine ⟨hp, fun ρ' _ s f w _ => ?_, fun s b e he h0 => ?_⟩
      · simp only [execOp, hop, Instr.alloc, Sem.run_bind, run_zeroValue' hz, Result.andThen_ok, newVar, run_newRow, Sem.run_pure, hcl]
      · have := VR.ptr (s := s) (o := 0) he
        rw [h0] at this
        simpa using this
    · cases h
  · rename_i t x y hop
    split at h
    · rename_i k m hx
      split at h
      · rename_i k' cp hy
        split at h
        · rename_i el hu
          split at h
          · cases h
          rename_i size hs
          split at h
          · cases h
          rename_i bytes hby
          split at h
          · cases h
          rename_i z hz0
          rw [cond_some] at h
          obtain ⟨hp, h⟩ := h
          simp only [Bool.and_eq_true, Nat.ble_eq, Nat.blt_eq, Nat.beq_eq] at hp
          obtain ⟨p1, hm, hs0, p4, p5, p6⟩ := hp
          simp only [Option.some.injEq] at h; subst h
          obtain ⟨x1, x2⟩ := okv_spec hx
          obtain ⟨y1, y2⟩ := okv_spec hy
          have hzs : z.cells.size = size := by rw [← p4, cellsL_eq]; simp
          have hb : bytes * cp ≤ 2 ^ 47 := Nat.le_trans p5 (by decide)
          have hcp : cp < 2 ^ 60 := Nat.lt_of_lt_of_le p6 (by decide)
          refine ⟨zeros_plain p1 cp, fun ρ' hag s f w hf => ?_, fun s b e he h0 => ?_⟩
          · have e1 := hf x x1
            rw [agr_opd (P := P) hag (by rw [hop]; simp [Op.operands]), x2] at e1
            have e2 := hf y y1
            rw [agr_opd (P := P) hag (by rw [hop]; simp [Op.operands]), y2] at e2
            obtain ⟨inf, hinf⟩ : ∃ inf, P.info? el = some inf := by
              cases h : P.info? el with
              | none => simp [h] at hs
              | some q => exact ⟨q, rfl⟩
            have hbb : inf.bytes = bytes := by simpa [hinf] using hby
            have w1 : IntKind.i64.wrap (m : Int) = m := IntWalk.i64_in _ (by omega)
            have w2 : IntKind.i64.wrap (cp : Int) = cp := IntWalk.i64_in _ (by omega)
            have hb' : ((inf.bytes : Int) * (cp : Int)) ≤ 2 ^ 47 := by rw [hbb]; exact_mod_cast hb
            have hzz : (Array.range (cp * size)).map (z.cells[· % size]!) = (zeros (cellsL z) cp).toArray := by
              apply Array.toList_inj.1
              rw [cellsL_eq, ← hzs, ← madeCells_zeros (by omega) cp]
            have hfin : (Instr.makeSlice t (.int k (m : Int)) (.int k' (cp : Int))).run P w = .ok (.slice (some ⟨w.heap.size, 0, none⟩) m cp) (w.alloc (.cells ((Array.range (cp * size)).map (z.cells[· % size]!)) el)) := by
              simp only [Instr.makeSlice, Sem.run_bind, run_underlying hu, Result.andThen_ok, asInt, run_asIntOf, Sem.run_pure, run_typeInfo w hinf, w1, w2]
              rw [if_neg (by simp; omega)]
              simp only [Sem.run_bind, run_askRoom, Result.andThen_ok, run_sizeOf' hs, Int.toNat_natCast]
              by_cases hn : cp * size = 0
              · have : cp = 0 := by
                  rcases Nat.mul_eq_zero.1 hn with h | h
                  · exact h
                  · omega
                subst this
                simp only [hn, if_true, Sem.run_pure, Result.andThen_ok, Sem.run_bind, run_newRow]
                congr 3
                apply Array.toList_inj.1
                simp
              · simp only [hn, if_false, Sem.run_bind, run_zeroValue' hz0, Result.andThen_ok, Sem.run_pure, run_newRow, hzs]
            have f1 : f x = .int k (m : Int) := VR.int_inv e1
            have f2 : f y = .int k' (cp : Int) := VR.int_inv e2
            simp only [execOp, hop, f1, f2, Sem.run_bind, hfin, Result.andThen_ok, Sem.run_pure, hzz]
          · refine .slice hm (fun _ => rfl) fun _ => ⟨e, he, by cases e; simp_all, fun h => by unfold UNK at h; omega⟩
        · cases h
      · cases h
    · cases h
  · cases h
section
variable {P : Program} {X : Exts} {C : Caller} {N : Nat} {ops : Array Oper}
end
end Go.Ri
set_option linter.unusedSimpArgs false
set_option linter.unusedVariables false
set_option linter.unusedSectionVars false
namespace Go.Am
open Go Go.RowKit
variable [SymE]
structure MakesV (P : Program) (ops : Array Oper) (o : Oper) (ρ : Env) (F : Flo) : Prop where
  run : ∀ (ρ' : Env), Agr ops o ρ ρ' → ∀ (s : Inj) (f : Operand → Value) (w : World), (∀ y, okOpd P.globals.size y = true → VR s (ρ'.eval y) (f y)) →
    ∃ cs : List Value, VRs s F.cells cs ∧ (execOp f o).run P w = .ok (.value (F.ref w.heap.size)) (w.alloc (.cells cs.toArray F.elem (0, 0)))
  vr : ∀ (s : Inj) (b : Nat) (e : Ent), s b = some e → e.off = 0 → VR s (F.ref b) (F.ref e.cb)
theorem MakesR.toV {P : Program} {ops : Array Oper} {o : Oper} {ρ : Env} {F : Flo} (h : MakesR P ops o ρ F) : MakesV P ops o ρ F :=
  ⟨fun ρ' hag s f w hf => ⟨F.cells, VRs.ofPlains h.pl, h.run ρ' hag s f w hf⟩, h.vr⟩
theorem MakesV.agr {P : Program} {ops : Array Oper} {o : Oper} {ρ ρ' : Env} {F : Flo} (h : MakesV P ops o ρ F) (hag : Agr ops o ρ ρ') : MakesV P ops o ρ' F :=
  ⟨fun ρ2 h2 => h.run ρ2 fun t ht => (h2 t ht).trans (hag t ht), h.vr⟩
section
variable {G : Nat} {base : Nat → Prop} {w0 : World} {s : Inj} {aw : AW} {w : World}
theorem Rel.attachV (h : Rel G base w0 s aw w) {cells cs : List Value} (elem esz : Nat) (hp : VRs s cells cs) {cb : Nat} (hcb : w.heap[cb]? = some (.cells cs.toArray elem (0, 0))) (hb : ¬ base cb)
    (hs : ∀ b B e, aw.m b = some B → s b = some e → e.cb ≠ cb) :
    ∃ s', s.le s' ∧ s' aw.next = some ⟨cb, 0, cells.length, esz⟩ ∧ Rel G base w0 s' (aw.alloc cells elem esz) w := by
  have hlen := hp.length
  refine ⟨fun b => if b = aw.next then some ⟨cb, 0, cells.length, esz⟩ else s b, ?_, by simp, ?_⟩
  · intro b e hb
    have hne : b ≠ aw.next := by
      rintro rfl
      rw [h.fresh _ (Nat.le_refl _)] at hb; simp at hb
    simpa [hne] using hb
  have hle : s.le (fun b => if b = aw.next then some ⟨cb, 0, cells.length, esz⟩ else s b) := by
    intro b e hb
    have hne : b ≠ aw.next := by
      rintro rfl
      rw [h.fresh _ (Nat.le_refl _)] at hb; simp at hb
    simpa [hne] using hb
  refine ⟨?_, ?_, ?_, ?_, h.hbase, ?_, h.below, (h.maps.inj hle).to rfl (Nat.le_succ _) fun _ _ _ hk => hk⟩
  · intro b hb
    have hb' : aw.next + 1 ≤ b := hb
    simp only [if_neg (show ¬ b = aw.next by omega)]
    exact h.fresh b (by omega)
  · intro b hb
    have hb' : aw.next + 1 ≤ b := hb
    simp only [AW.alloc, if_neg (show ¬ b = aw.next by omega)]
    exact h.mfresh b (by omega)
  · intro b B hb'
    simp only [AW.alloc] at hb'
    by_cases hbn : b = aw.next
    · subst hbn
      simp only [if_true, Option.some.injEq] at hb'
      subst hb'
      refine ⟨⟨cb, 0, cells.length, esz⟩, cs.toArray, (0, 0), by simp, ⟨rfl, fun _ => rfl, fun _ => ⟨rfl, rfl⟩⟩, hcb, by simp [hlen], by simp, ?_, ?_⟩
      · intro i v hi
        obtain ⟨v', a1, a2⟩ := hp.get hi
        exact ⟨v', by simpa using a1, a2.mono hle⟩
      · intro _
        exact ⟨hb, fun _ j h1 h2 => by simp⟩
    · simp only [if_neg hbn] at hb'
      obtain ⟨e, cs', fz', h1, h2, h3, h4, h5, h6, h7⟩ := h.blk b B hb'
      refine ⟨e, cs', fz', by simpa [hbn] using h1, h2, h3, h4, h5, ?_, h7⟩
      intro i v hi
      obtain ⟨v', k1, k2⟩ := h6 i v hi
      exact ⟨v', k1, k2.mono hle⟩
  · intro b1 b2 B1 B2 e1 e2 hne hb1 hb2 he1 he2 hrw
    simp only [AW.alloc] at hb1 hb2
    by_cases h1 : b1 = aw.next
    · subst h1
      have h2 : ¬ b2 = aw.next := fun e => hne e.symm
      simp only [if_true, Option.some.injEq, if_neg h2] at he1 he2 hb2
      subst he1
      exact fun e => hs b2 B2 e2 hb2 he2 e.symm
    · simp only [if_neg h1] at hb1 he1
      by_cases h2 : b2 = aw.next
      · subst h2
        simp only [if_true, Option.some.injEq] at he2
        subst he2
        exact hs b1 B1 e1 hb1 he1
      · simp only [if_neg h2] at hb2 he2
        exact h.sep b1 b2 B1 B2 e1 e2 hne hb1 hb2 he1 he2 hrw
  · intro g hg
    obtain ⟨e, h1, h2, h3⟩ := h.glob g hg
    exact ⟨e, hle g e h1, h2, h3⟩
end
abbrev ApV := List (Flo × Nat × List Value)
abbrev ApV.ds (A : ApV) : List Tmp := A.map fun p => p.1.d
abbrev ApV.cbs (A : ApV) : List Nat := A.map fun p => p.2.1
structure SM (G : Nat) (base : Nat → Prop) (w0 : World) (s0 : Inj) (N : Nat) (A : ApV) (lo : Nat) (ρ : Env) (ds : List Deferred) (aw : AW) (a : Act) (w : World) : Prop where
  ex : ∃ s1, s0.le s1 ∧ St G base w0 s1 (hide A.ds ρ) N ds aw (hideA A.ds a) w ∧ ∀ p ∈ A, VRs s1 p.1.cells p.2.2 ∧ ∀ b B e, aw.m b = some B → B.rw = true → s1 b = some e → e.cb ≠ p.2.1
  low : lo ≤ w.heap.size
  apt : ∀ p ∈ A, w.heap[p.2.1]? = some (.cells p.2.2.toArray p.1.elem (0, 0)) ∧ ¬ base p.2.1 ∧ lo ≤ p.2.1 ∧ a.tmps[p.1.d]? = some (p.1.ref p.2.1)
  nd : A.cbs.Nodup
section
variable {P : Program} {N : Nat} {ops : Array Oper} {i : Nat} {o : Oper} {K : Act → World → Prop} {Q : Exit → Act → World → Prop} {a : Act} {w wS : World}
  {base : Nat → Prop} {w0 : World} {s0 : Inj} {ρ : Env} {ds : List Deferred} {aw aw' : AW} {v : Value} {A : ApV} {lo : Nat}
theorem SM.hE {A : ApV} {a : Act} (hq : ∀ p ∈ A, Early ops p.1.d o) : execOp a.eval o = execOp (hideA A.ds a).eval o := by
  have hdl : ∀ d ∈ A.ds, d ∉ looks ops o := fun d hd => by
    obtain ⟨p, hp, rfl⟩ := List.mem_map.1 hd
    exact (hq p hp).1
  cases A with
  | nil => rfl
  | cons p A => exact execOp_hide (ops := ops) (hq p (List.mem_cons_self ..)).2.2 a hdl
theorem SM.hW {A : ApV} {a : Act} (hq : ∀ p ∈ A, Early ops p.1.d o) : Region.wanted o (yielded ops a.tmps) = Region.wanted o (yielded ops (hideA A.ds a).tmps) := wanted_hide a fun d hd => by
  obtain ⟨p, hp, rfl⟩ := List.mem_map.1 hd
  exact (hq p hp).1
theorem SM.relX {s1 : Inj} (h2 : St P.globals.size base w0 s1 (hide A.ds ρ) N ds aw (hideA A.ds a) w) (hs : ∀ p ∈ A, VRs s1 p.1.cells p.2.2 ∧ ∀ b B e, aw.m b = some B → B.rw = true → s1 b = some e → e.cb ≠ p.2.1)
    (h4 : ∀ p ∈ A, w.heap[p.2.1]? = some (.cells p.2.2.toArray p.1.elem (0, 0)) ∧ ¬ base p.2.1 ∧ lo ≤ p.2.1 ∧ a.tmps[p.1.d]? = some (p.1.ref p.2.1)) : Rel P.globals.size (fun k => base k ∨ k ∈ A.cbs) w s1 aw w :=
  h2.rel.keepAll (fun c hc => by
    obtain ⟨p, hp, rfl⟩ := List.mem_map.1 hc
    exact (Array.getElem?_eq_some_iff.1 (h4 p hp).1).1) (fun b B e hb hr he hm => by
    obtain ⟨p, hp, hpe⟩ := List.mem_map.1 hm
    exact (hs p hp).2 b B e hb hr he hpe.symm) (fun c hc xs ck hm => by
    obtain ⟨p, hp, rfl⟩ := List.mem_map.1 hc
    rw [(h4 p hp).1] at hm; cases hm)
theorem SM.fin {s1 s' : Inj} {v' : Value} {w' : World} (h1 : s0.le s1) (hs : ∀ p ∈ A, VRs s1 p.1.cells p.2.2 ∧ ∀ b B e, aw.m b = some B → B.rw = true → s1 b = some e → e.cb ≠ p.2.1) (h3 : lo ≤ w.heap.size)
    (h4 : ∀ p ∈ A, w.heap[p.2.1]? = some (.cells p.2.2.toArray p.1.elem (0, 0)) ∧ ¬ base p.2.1 ∧ lo ≤ p.2.1 ∧ a.tmps[p.1.d]? = some (p.1.ref p.2.1)) (h5 : A.cbs.Nodup) (hq : ∀ p ∈ A, Early ops p.1.d o)
    (k1 : s1.le s') (k2 : St P.globals.size base w0 s' ((hide A.ds ρ).put o.dst v) N ds aw' ((hideA A.ds a).put o.dst v') w') (k3 : Rel P.globals.size (fun k => base k ∨ k ∈ A.cbs) w s' aw' w') :
    SM P.globals.size base w0 s0 N A lo (ρ.put o.dst v) ds aw' (a.put o.dst v') w' := by
  have hdn : ∀ d ∈ A.ds, o.dst ≠ some d := fun d hd => by
    obtain ⟨p, hp, rfl⟩ := List.mem_map.1 hd
    exact (hq p hp).2.1
  refine ⟨⟨s', Inj.le_trans h1 k1, by rw [hide_put hdn, hideA_put hdn]; exact k2, fun p hp => ⟨(hs p hp).1.mono k1, fun b B e hb hr he hc => ?_⟩⟩, Nat.le_trans h3 k3.below.size, fun p hp => ?_, h5⟩
  · obtain ⟨e', cs, fz, g1, _, _, _, _, _, g7⟩ := k3.blk b B hb
    rw [he] at g1; obtain rfl := Option.some.inj g1
    exact (g7 hr).1 (.inr (List.mem_map.2 ⟨p, hp, hc.symm⟩))
  · obtain ⟨q1, q2, q3, q4⟩ := h4 p hp
    exact ⟨(k3.below.block p.2.1 (.inr (List.mem_map.2 ⟨p, hp, rfl⟩))).trans q1, q2, q3, by rw [act_get_ne a v' (hq p hp).2.1]; exact q4⟩
theorem SM.look {A : ApV} {ρ : Env} (hq : ∀ p ∈ A, Early ops p.1.d o) : Agr ops o ρ (hide A.ds ρ) := looks_hide fun d hd => by
  obtain ⟨p, hp, rfl⟩ := List.mem_map.1 hd
  exact (hq p hp).1
theorem SM.val (h : SM P.globals.size base w0 s0 N A lo ρ ds aw a w) (hN : dstsOk N ops = true) (ho : ops[i]? = some o) (hq : ∀ p ∈ A, Early ops p.1.d o)
    (hv : ∀ ρ2, Agr ops o ρ ρ2 → wants ops o ρ2 true ∧ OpV P o ρ2 aw v aw') (hk : ∀ a' w', SM P.globals.size base w0 s0 N A lo (ρ.put o.dst v) ds aw' a' w' → K a' w') : wpOp P ops Q i K a w := by
  obtain ⟨⟨s1, h1, h2, hs⟩, h3, h4, h5⟩ := h
  obtain ⟨g1, g2⟩ := hv _ (SM.look hq)
  exact gen_val ho hN h2 (SM.relX h2 hs h4) (fun _ h => .inl h) (SM.hE hq) (SM.hW hq) g1 g2 fun s' v' w' k1 k2 k3 => hk _ _ (SM.fin h1 hs h3 h4 h5 hq k1 k2 k3)
theorem SM.skip (h : SM P.globals.size base w0 s0 N A lo ρ ds aw a w) (hN : dstsOk N ops = true) (ho : ops[i]? = some o) (hq : ∀ p ∈ A, Early ops p.1.d o)
    (hv : ∀ ρ2, Agr ops o ρ ρ2 → wants ops o ρ2 false) (hk : ∀ a' w', SM P.globals.size base w0 s0 N A lo (ρ.put o.dst undef) ds aw a' w' → K a' w') : wpOp P ops Q i K a w := by
  obtain ⟨⟨s1, h1, h2, hs⟩, h3, h4, h5⟩ := h
  exact gen_skip ho hN h2 h2.rel.re (SM.hW hq) (hv _ (SM.look hq)) fun k2 => hk _ _ (SM.fin h1 hs h3 h4 h5 hq (Inj.le_refl s1) k2 (SM.relX h2 hs h4))
theorem SM.call {fid : FuncId} {args : List Value} {R : Value → AW → Prop} (h : SM P.globals.size base w0 s0 N A lo ρ ds aw a w) (hN : dstsOk N ops = true) (ho : ops[i]? = some o) (hq : ∀ p ∈ A, Early ops p.1.d o)
    (hv : ∀ ρ2, Agr ops o ρ ρ2 → wants ops o ρ2 true ∧ OpC P o ρ2 fid args) (hcall : ACalls P fid args aw fun | .returned v, aw' => R v aw' | .panicked _, _ => False)
    (hk : ∀ v aw' a' w', R v aw' → SM P.globals.size base w0 s0 N A lo (ρ.put o.dst v) ds aw' a' w' → K a' w') : wpOp P ops Q i K a w := by
  obtain ⟨⟨s1, h1, h2, hs⟩, h3, h4, h5⟩ := h
  obtain ⟨g1, g2⟩ := hv _ (SM.look hq)
  exact gen_call ho hN h2 (SM.relX h2 hs h4) (fun _ h => .inl h) (SM.hE hq) (SM.hW hq) g1 g2 hcall fun s' v v' aw' w' hr k1 k2 k3 => hk _ _ _ _ hr (SM.fin h1 hs h3 h4 h5 hq k1 k2 k3)
theorem SM.read (h : SM P.globals.size base w0 s0 N A lo ρ ds aw a w) (hN : dstsOk N ops = true) (ho : ops[i]? = some o) (hq : ∀ p ∈ A, Early ops p.1.d o)
    (hv : ∀ ρ2, Agr ops o ρ ρ2 → (wants ops o ρ2 true ∧ OpV P o ρ2 aw v aw) ∨ (wants ops o ρ2 false ∧ v = undef) ∨ (wants ops o ρ2 true ∧ ∃ fid args, OpC P o ρ2 fid args ∧ ACalls P fid args aw fun e aw' => e = .returned v ∧ aw' = aw))
    (hk : ∀ a' w', SM P.globals.size base w0 s0 N A lo (ρ.put o.dst v) ds aw a' w' → K a' w') : wpOp P ops Q i K a w := by
  obtain ⟨⟨s1, h1, h2, hs⟩, h3, h4, h5⟩ := h
  rcases hv _ (SM.look hq) with ⟨g1, g2⟩ | ⟨g1, rfl⟩ | ⟨g1, fid, args, g2, g3⟩
  · exact gen_val ho hN h2 (SM.relX h2 hs h4) (fun _ h => .inl h) (SM.hE hq) (SM.hW hq) g1 g2 fun s' v' w' k1 k2 k3 => hk _ _ (SM.fin h1 hs h3 h4 h5 hq k1 k2 k3)
  · exact gen_skip ho hN h2 h2.rel.re (SM.hW hq) g1 fun k2 => hk _ _ (SM.fin h1 hs h3 h4 h5 hq (Inj.le_refl s1) k2 (SM.relX h2 hs h4))
  · refine gen_call (R := fun u aw' => u = v ∧ aw' = aw) ho hN h2 (SM.relX h2 hs h4) (fun _ h => .inl h) (SM.hE hq) (SM.hW hq) g1 g2 (g3.mono fun e aw' he => by obtain ⟨rfl, rfl⟩ := he; exact ⟨rfl, rfl⟩) ?_
    rintro s' u v' aw' w' ⟨rfl, rfl⟩ k1 k2 k3
    exact hk _ _ (SM.fin h1 hs h3 h4 h5 hq k1 k2 k3)
theorem SM.make {F : Flo} (h : SM P.globals.size base w0 s0 N A lo ρ ds aw a w) (ho : ops[i]? = some o) (hg : o.guard = none) (hd : o.dst = some F.d) (hdN : F.d < N) (hm : MakesV P ops o ρ F) (hnew : F.d ∉ A.ds)
    (hsel : ∀ cs b, o.op ≠ .select cs b) (hdl : ∀ d ∈ A.ds, d ∉ looks ops o)
    (hk : ∀ a' w' cb cs, SM P.globals.size base w0 s0 N ((F, cb, cs) :: A) lo ρ ds aw a' w' → K a' w') : wpOp P ops Q i K a w := by
  obtain ⟨⟨s1, h1, h2, hs⟩, h3, h4, h5⟩ := h
  have hw : Region.wanted o (yielded ops a.tmps) = true := by unfold Region.wanted; rw [hg]
  have hE : execOp a.eval o = execOp (hideA A.ds a).eval o := execOp_hide hsel a hdl
  obtain ⟨cs, hcs, hrun⟩ := hm.run (hide A.ds ρ) (looks_hide hdl) s1 (hideA A.ds a).eval w (fun y hy => h2.eval hy)
  simp only [wpOp, ho, if_pos hw]
  left
  unfold Oper.wp
  rw [hE, hrun]
  have hda : F.d < a.tmps.size := by have := h2.size; rw [hideA_size] at this; rw [this]; exact hdN
  refine hk _ _ w.heap.size cs ⟨⟨s1, h1, ?_, ?_⟩, ?_, ?_, ?_⟩
  · have e1 : hide (ApV.ds ((F, w.heap.size, cs) :: A)) ρ = (hide A.ds ρ).put (some F.d) undef := by
      funext t
      simp only [hide, Env.put_some, ApV.ds, List.map_cons, List.mem_cons]
      by_cases ht : t = F.d
      · rw [if_pos (.inl ht), if_pos ht]
      · rw [if_neg ht]
        by_cases ht2 : t ∈ List.map (fun p : Flo × Nat × List Value => p.1.d) A
        · rw [if_pos (.inr ht2), if_pos ht2]
        · rw [if_neg (fun h => h.elim ht ht2), if_neg ht2]
    have e2 : hideA (ApV.ds ((F, w.heap.size, cs) :: A)) (a.put o.dst (F.ref w.heap.size)) = (hideA A.ds a).put (some F.d) undef := by
      show (hideA A.ds (a.put o.dst (F.ref w.heap.size))).put (some F.d) undef = _
      rw [hd, hideA_put (fun d hd' h' => hnew (by obtain rfl := Option.some.inj h'; exact hd')), act_put_put]
    rw [e1, e2]
    refine ⟨h2.rel.grow _, put_env h2.env (fun e he => by obtain rfl := Option.some.inj he; rw [hideA_size]; exact hda) VR.undef, by rw [put_size]; exact h2.size, by rw [put_defers]; exact h2.dfr, ?_, by rw [put_defers]; exact h2.nd⟩
    rw [put_defers]
    intro r hr
    obtain ⟨g1, g2⟩ := h2.mrk r hr
    exact ⟨g1, by rw [Below.heap_alloc _ _ _ (Array.getElem?_eq_some_iff.1 g2).1]; exact g2⟩
  · intro p hp
    rcases List.mem_cons.1 hp with rfl | hp
    · refine ⟨hcs, fun b B e hb _ he => ?_⟩
      have := h2.rel.cbLt hb he
      simp only
      omega
    · exact hs p hp
  · show lo ≤ (w.heap.push _).size
    simp; omega
  · intro p hp
    rcases List.mem_cons.1 hp with rfl | hp
    · refine ⟨?_, fun hb => absurd (h2.rel.hbase _ hb) (Nat.lt_irrefl _), h3, ?_⟩
      · show (w.heap.push _)[w.heap.size]? = _
        simp
      · rw [hd]; simp [Act.put, hda]
    · obtain ⟨q1, q2, q3, q4⟩ := h4 p hp
      refine ⟨by rw [Below.heap_alloc _ _ _ (Array.getElem?_eq_some_iff.1 q1).1]; exact q1, q2, q3, ?_⟩
      rw [hd, act_get_ne a _ (fun h => hnew (by obtain h := Option.some.inj h; rw [h]; exact List.mem_map.2 ⟨p, hp, rfl⟩))]
      exact q4
  · simp only [ApV.cbs, List.map_cons, List.nodup_cons]
    refine ⟨fun hm => ?_, h5⟩
    obtain ⟨p, hp, hpe⟩ := List.mem_map.1 hm
    have := (Array.getElem?_eq_some_iff.1 (h4 p hp).1).1
    omega
def RoOk' (awS aw : AW) : Prop := ∀ b B, b < aw.next → aw.m b = some B → B.rw = false → ∃ B0, awS.m b = some B0
theorem SM.meet {awS : AW} {F : Flo} {cb : Nat} {cs : List Value} (h : SM P.globals.size base w0 s0 N A wS.heap.size ρ ds aw a w) (hS : Rel P.globals.size base w0 s0 awS wS) (hp : (F, cb, cs) ∈ A)
    (hvr : ∀ (s : Inj) (b : Nat) (e : Ent), s b = some e → e.off = 0 → VR s (F.ref b) (F.ref e.cb)) (hdd : ∀ p ∈ A, p.1.d = F.d ↔ p.1.x = F.x) (hxx : ∀ p ∈ A, p.1.x = F.x → p = (F, cb, cs)) (hro : RoOk' awS aw) :
    SM P.globals.size base w0 s0 N (A.filter fun p => p.1.x != F.x) wS.heap.size (ρ.put (some F.d) (F.ref aw.next)) ds (aw.alloc F.cells F.elem F.esz) a w := by
  obtain ⟨⟨s1, h1, h2, hs⟩, h3, h4, h5⟩ := h
  obtain ⟨q1, q2, q3, q4⟩ := h4 _ hp
  obtain ⟨z1, z2⟩ := hs _ hp
  obtain ⟨s', k1, k2, k3⟩ := h2.rel.attachV F.elem F.esz z1 q1 q2 (fun b B e hb he => by
    cases hr : B.rw with
    | true => exact z2 b B e hb hr he
    | false =>
      have hlt : b < aw.next := by
        rcases Nat.lt_or_ge b aw.next with h | h
        · exact h
        · rw [h2.rel.mfresh b h] at hb; cases hb
      obtain ⟨B0, hB0⟩ := hro b B hlt hb hr
      obtain ⟨e0, cs, fz, g1, _⟩ := hS.blk b B0 hB0
      have g2 := h1 b e0 g1
      rw [he] at g2; obtain rfl := Option.some.inj g2
      have := hS.cbLt hB0 g1
      simp only at q3 ⊢
      omega)
  have hmem : ∀ p, p ∈ (A.filter fun p => p.1.x != F.x) ↔ p ∈ A ∧ p.1.x ≠ F.x := fun p => by simp [List.mem_filter]
  have hds : ∀ t, t ∈ ApV.ds (A.filter fun p => p.1.x != F.x) ↔ t ∈ A.ds ∧ t ≠ F.d := fun t => by
    constructor
    · intro ht
      obtain ⟨p, hp', rfl⟩ := List.mem_map.1 ht
      obtain ⟨a1, a2⟩ := (hmem p).1 hp'
      exact ⟨List.mem_map.2 ⟨p, a1, rfl⟩, fun h => a2 ((hdd p a1).1 h)⟩
    · rintro ⟨ht, hne⟩
      obtain ⟨p, hp', rfl⟩ := List.mem_map.1 ht
      exact List.mem_map.2 ⟨p, (hmem p).2 ⟨hp', fun h => hne ((hdd p hp').2 h)⟩, rfl⟩
  refine ⟨⟨s', Inj.le_trans h1 k1, ⟨k3, fun t => ?_, ?_, ?_, ?_, ?_⟩, ?_⟩, h3, fun p hp' => h4 p ((hmem p).1 hp').1, ?_⟩
  · rw [hideA_getD]
    unfold hide
    by_cases ht : t ∈ ApV.ds (A.filter fun p => p.1.x != F.x)
    · rw [if_pos ht, if_pos ht]; exact VR.undef
    · rw [if_neg ht, if_neg ht, put_at]
      by_cases htd : t = F.d
      · rw [if_pos htd, htd]
        have e : a.tmps.getD F.d undef = F.ref cb := by
          obtain ⟨g1, g2⟩ := Array.getElem?_eq_some_iff.1 q4
          simp only at g1 g2
          simp [Array.getD, g1, g2]
        rw [e]
        exact hvr s' _ _ k2 rfl
      · rw [if_neg htd]
        have hta : t ∉ A.ds := fun h => ht ((hds t).2 ⟨h, htd⟩)
        have := h2.env t
        rw [hideA_getD, if_neg hta] at this
        unfold hide at this
        rw [if_neg hta] at this
        exact this.mono k1
  · have := h2.size
    rw [hideA_size] at this ⊢
    exact this
  · have := h2.dfr
    rw [hideA_defers] at this ⊢
    exact this.mono k1
  · have := h2.mrk
    rw [hideA_defers] at this ⊢
    exact this
  · have := h2.nd
    rw [hideA_defers] at this ⊢
    exact this
  · intro p hp'
    obtain ⟨a1, a2⟩ := (hmem p).1 hp'
    refine ⟨(hs p a1).1.mono k1, fun b B e hb hr he => ?_⟩
    simp only [AW.alloc] at hb
    by_cases hbn : b = aw.next
    · subst hbn
      rw [k2] at he
      obtain rfl := Option.some.inj he
      intro hc
      have hc : cb = p.2.1 := hc
      have key : ∀ (A : ApV), A.cbs.Nodup → (F, cb, cs) ∈ A → p ∈ A → p = (F, cb, cs) := by
        intro A
        induction A with
        | nil => intro _ h _; cases h
        | cons z A ih =>
          intro hn b1 b2
          simp only [ApV.cbs, List.map_cons, List.nodup_cons] at hn
          rcases List.mem_cons.1 b1 with b1 | b1
          · rcases List.mem_cons.1 b2 with b2 | b2
            · rw [b1, b2]
            · exact absurd (List.mem_map.2 ⟨p, b2, by rw [← b1, ← hc]⟩) hn.1
          · rcases List.mem_cons.1 b2 with b2 | b2
            · exact absurd (List.mem_map.2 ⟨(F, cb, cs), b1, by rw [← b2, ← hc]⟩) hn.1
            · exact ih hn.2 b1 b2
      have := key A h5 hp a1
      rw [this] at a2
      exact a2 rfl
    · rw [if_neg hbn] at hb
      obtain ⟨e', cs', fz, g1, _⟩ := h2.rel.blk b B hb
      have := k1 b e' g1
      rw [he] at this; obtain rfl := Option.some.inj this
      exact (hs p a1).2 b B _ hb hr g1
  · exact List.Nodup.sublist (List.Sublist.map _ List.filter_sublist) h5
end
end Go.Am
set_option linter.unusedSimpArgs false
set_option linter.unusedVariables false
set_option linter.unusedSectionVars false
namespace Go.Am
open Go Go.RowKit
variable [SymE]
inductive Pe where
  | loud (t : Nat) (q nh : List Nat)
  | birth (x : Nat) (d : Tmp)
  | meet (x : Nat) (q nh : List Nat)
def Pe.own : Pe → List Nat
  | .loud t _ _ => [t]
  | .birth x _ => [x]
  | .meet _ _ _ => []
def Pe.nh : Pe → List Nat
  | .loud _ _ nh => nh
  | .birth _ _ => []
  | .meet _ _ nh => nh
def Pe.q : Pe → List Nat
  | .loud _ q _ => q
  | .birth _ _ => []
  | .meet _ q _ => q
def awaitP (ops : Array Oper) (k : Nat) (r : List Pe) (post : Tl) : Bool :=
  (r.all fun e => (e.own.all fun i => anc ops ops.size i k) && e.nh.all fun i => anc ops ops.size i k) && post.all fun e => anc ops ops.size e.1 k && e.2.2.all fun i => anc ops ops.size i k
def earlyB (ops : Array Oper) (D : List (Nat × Tmp)) (i : Nat) : Bool := ((ops[i]?).map fun (o : Oper) => D.all fun g => !(looks ops o).contains g.2 && o.dst != some g.2 && notSel o.op).getD true
def lateB (ops : Array Oper) (D : List (Nat × Tmp)) (d : Option Tmp) : Bool := D.all fun g => ((ops[g.1]?).map fun (o : Oper) => (looks ops o).all fun t => d != some t).getD true
def freshP (p : List Nat) (pl : List Pe) (post : Tl) : Bool := p.all fun i => (pl.all fun e => !e.nh.contains i) && post.all fun e => !e.2.2.contains i
theorem freshP_spec {p : List Nat} {pl : List Pe} {post : Tl} (h : freshP p pl post = true) {i : Nat} (hi : i ∈ p) : (∀ e ∈ pl, i ∉ e.nh) ∧ ∀ e ∈ post, i ∉ e.2.2 := by
  simp only [freshP, List.all_eq_true, Bool.and_eq_true, Bool.not_eq_true'] at h
  obtain ⟨h1, h2⟩ := h i hi
  exact ⟨fun e he hm => by have := h1 e he; simp [hm] at this, fun e he hm => by have := h2 e he; simp [hm] at this⟩
def floB (ops : Array Oper) (x : Nat) (d : Tmp) : Bool := ((ops[x]?).map fun (o : Oper) => o.guard.isNone && o.dst == some d && notSel o.op && !(looks ops o).contains d).getD false
def twoOk (ops : Array Oper) (p : List Nat) (post : Tl) : Bool := match post with
  | [(t1, q1, []), (t2, q2, [])] => (p.all fun i => q1.contains i || anc ops ops.size t1 i) && (p.all fun i => q2.contains i || anc ops ops.size t2 i) && (q1.all fun i => anc ops ops.size t2 i) && (q2.all fun i => anc ops ops.size t1 i)
  | _ => false
def LinW (P : Program) (ops : Array Oper) (Kn : Env → List Deferred → AW → Prop) (Kp : List PanicEntry → Env → List Deferred → AW → Prop) (post : Tl) (ρ : Env) (ds : List Deferred) (aw : AW) : Prop :=
  ∃ t1 q1 t2 q2, post = [(t1, q1, []), (t2, q2, [])] ∧ LinT P ops Kn Kp [(t1, q1, []), (t2, [], [])] ρ ds aw ∧ LinT P ops Kn Kp [(t2, q2, []), (t1, [], [])] ρ ds aw
def planOk (two : Bool) (ops : Array Oper) (post : Tl) : List Nat → List (Nat × Tmp) → List Pe → Bool
  | p, _, [] => bif two then twoOk ops p post else chainOk ops (post.map (·.1)) && pendOk ops p post
  | p, um, .loud t q nh :: r =>
    freshP p (.loud t q nh :: r) post && (p.all fun i => q.contains i || anc ops ops.size t i) && (nh.all fun i => anc ops ops.size i t) && awaitP ops t r post &&
    (p.all fun i => earlyB ops um i) && earlyB ops um t && lateB ops um (dstOf ops t) && (nh.all fun i => lateB ops um (dstOf ops i)) && planOk two ops post (q ++ nh) um r
  | p, um, .birth x d :: r =>
    (um.all fun g => g.1 != x && g.2 != d && earlyB ops [(x, d)] g.1 && earlyB ops [g] x) && floB ops x d && planOk two ops post p ((x, d) :: um) r
  | p, um, .meet x q nh :: r =>
    freshP p (.meet x q nh :: r) post && (p.all fun i => q.contains i || anc ops ops.size x i) && (nh.all fun i => anc ops ops.size i x) && awaitP ops x r post &&
    (p.all fun i => earlyB ops (um.filter fun g => g.1 != x) i) && (um.all fun g => g.1 != x || lateB ops (um.filter fun g => g.1 != x) (some g.2)) && (nh.all fun i => lateB ops (um.filter fun g => g.1 != x) (dstOf ops i)) &&
    planOk two ops post (q ++ nh) (um.filter fun g => g.1 != x) r
def LinP (two : Bool) (P : Program) (ops : Array Oper) (post : Tl) (awS : AW) (Kn : Env → List Deferred → AW → Prop) (Kp : List PanicEntry → Env → List Deferred → AW → Prop) : List Pe → List Flo → Env → List Deferred → AW → Prop
  | [], B, ρ, ds, aw => B = [] ∧ bif two then LinW P ops Kn Kp post ρ ds aw else LinT P ops Kn Kp post ρ ds aw
  | .loud t q nh :: r, B, ρ, ds, aw => ∃ o, ops[t]? = some o ∧ TStep P ops o ρ ds aw (fun ρ' ds' aw' => ∃ ρ2, OffL ops nh ρ' ρ2 ∧ FFl P ops (q ++ nh) ρ2 aw' ∧ LinP two P ops post awS Kn Kp r B ρ2 ds' aw') (fun _ _ _ _ => False)
  | .birth x d :: r, B, ρ, ds, aw => ∃ o F, ops[x]? = some o ∧ F.x = x ∧ F.d = d ∧ MakesV P ops o ρ F ∧ LinP two P ops post awS Kn Kp r (F :: B) ρ ds aw
  | .meet x q nh :: r, B, ρ, ds, aw => ∃ F ∈ B, F.x = x ∧ RoOk' awS aw ∧ ∃ ρ2, OffL ops nh (ρ.put (some F.d) (F.ref aw.next)) ρ2 ∧ FFl P ops (q ++ nh) ρ2 (aw.alloc F.cells F.elem F.esz) ∧
      LinP two P ops post awS Kn Kp r (B.filter fun H => H.x != x) ρ2 ds (aw.alloc F.cells F.elem F.esz)
theorem notSel_spec {o : Oper} (h : notSel o.op = true) : ∀ cs b, o.op ≠ .select cs b := fun cs b he => by rw [he] at h; cases h
theorem earlyB_spec {ops : Array Oper} {D : List (Nat × Tmp)} {i : Nat} {o : Oper} (h : earlyB ops D i = true) (ho : ops[i]? = some o) : ∀ g ∈ D, Early ops g.2 o := by
  unfold earlyB at h
  rw [ho] at h
  simp only [Option.map_some, Option.getD_some, List.all_eq_true, Bool.and_eq_true, Bool.not_eq_true', bne_iff_ne, ne_eq] at h
  intro g hg
  obtain ⟨⟨h1, h2⟩, h3⟩ := h g hg
  exact ⟨fun hm => by simp [hm] at h1, h2, notSel_spec h3⟩
theorem lateB_spec {ops : Array Oper} {D : List (Nat × Tmp)} {d : Option Tmp} (h : lateB ops D d = true) {g : Nat × Tmp} (hg : g ∈ D) {o : Oper} (ho : ops[g.1]? = some o) : ∀ t ∈ looks ops o, d ≠ some t := by
  unfold lateB at h
  have := (List.all_eq_true.1 h) g hg
  rw [ho] at this
  simp only [Option.map_some, Option.getD_some, List.all_eq_true, bne_iff_ne, ne_eq] at this
  exact this
section
variable {P : Program} {N : Nat} {ops : Array Oper} {hs : List Nat} {Kn : Env → List Deferred → AW → Prop} {Kp : List PanicEntry → Env → List Deferred → AW → Prop}
  {base : Nat → Prop} {w0 : World} {s0 : Inj} {post : Tl} {wS : World} {awS : AW}
theorem tail_step (hN : dstsOk N ops = true) (hs : List Nat) (hst : ∀ i ∈ hs, i < ops.size ∧ ∃ d, dstOf ops i = some d ∧ ∀ j ∈ hs, dstOf ops j = some d → j = i)
    (hord : ((List.range ops.size).all fun j => ((ops[j]?).map fun (o : Oper) => o.after.all fun e => !Region.binds .any e || decide (e.on < j)).getD true) = true)
    (hlk : ((List.range ops.size).all fun j => ((ops[j]?).map fun (o : Oper) => (looks ops o).all fun t => hs.all fun i => dstOf ops i != some t || anc ops ops.size j i).getD true) = true)
    {n : Nat} {l : Array Bool} {ρ' ρ : Env} {ds : List Deferred} {aw : AW} {p : List Nat} {i : Nat} {q : List Nat} {u : Nat} (hl : l.size = ops.size) (hf : left (l.setIfInBounds i true) = n)
    (hi : i ∈ Region.ready .any ops l) (hip : i ∉ p) (hin : ∀ j, j < ops.size → l.getD j true = false → j ∈ p ∨ j = i ∨ j = u)
    (hu : u < ops.size ∧ l.getD u true = false ∧ (∀ j ∈ hs, dstOf ops j ≠ dstOf ops u ∧ j ≠ u) ∧ i ≠ u)
    (hcl : ∀ j, listedOf (l.setIfInBounds i true) j = true → j < ops.size → ∀ o, ops[j]? = some o → ∀ e ∈ o.after, Region.binds .any e = true → (l.setIfInBounds i true).getD e.on false = true)
    (hanc : ∀ j, anc ops ops.size i j = true → l.getD j false = true)
    (hp : ∀ j ∈ p, j ∈ hs) (hq : ∀ j ∈ q, j ∈ hs) (hag : ∀ t, (∀ j ∈ p, l.getD j true = false → dstOf ops j ≠ some t) → ρ' t = ρ t)
    (hag' : ∀ o, ops[i]? = some o → Agr ops o ρ ρ')
    (hpq : ∀ j ∈ p, j ∈ q ∨ anc ops ops.size i j = true) (hqu : ∀ j ∈ q, anc ops ops.size u j = true) (hlin : LinT P ops Kn Kp [(i, q, []), (u, [], [])] ρ ds aw) :
    AOps P N ops [i] ρ' ds aw (fun ρ' ds' aw' => TailAny P N ops Kn Kp n (l.setIfInBounds i true) ρ' ds' aw') Kp := by
  obtain ⟨g1, g2, g3⟩ := ready_spec hi
  obtain ⟨u1, u2, u3, u4⟩ := hu
  have hkeep : ∀ j, (l.setIfInBounds i true).getD j true = false → i ≠ j ∧ l.getD j true = false := by
    intro j hx
    rw [getD_set] at hx
    split at hx
    · cases hx
    · rename_i hne
      refine ⟨fun h => ?_, hx⟩
      subst h
      have : ¬ i < l.size := fun h => hne ⟨rfl, h⟩
      simp [Array.getD, this] at hx
  have hput : ∀ j, i ≠ j → l.getD j true = false → (l.setIfInBounds i true).getD j true = false := by
    intro j hne hx
    rw [getD_set, if_neg (fun h => hne h.1)]; exact hx
  have hoff : Off ops ρ ρ' := fun t ht => hag t fun j hj hx => ht j
  obtain ⟨o, ho, hstep⟩ := hlin
  have hagr := hag' o ho
  have go : ∀ (v : Value) (ds' : List Deferred) (aw' : AW), (∃ ρ2, OffL ops [] (ρ.put o.dst v) ρ2 ∧ FFl P ops (q ++ []) ρ2 aw' ∧ LinT P ops Kn Kp [(u, [], [])] ρ2 ds' aw') → TailAny P N ops Kn Kp n (l.setIfInBounds i true) (ρ'.put o.dst v) ds' aw' := by
    rintro v ds' aw' ⟨ρ2, ho2, hff', hlin'⟩
    rw [List.append_nil] at hff'
    refine lin_tail hN hs hst hord hlk n _ _ ρ2 ds' aw' q [(u, [], [])] (by simp [hl]) hf ?_ ?_ hcl hq ?_ rfl ?_ (by simp) hff' hlin'
    · intro j hj hx
      obtain ⟨hne, hx⟩ := hkeep j hx
      rcases hin j hj hx with h | h | h
      · rcases hpq j h with h | h
        · exact .inl h
        · have := hanc j h
          rw [getD_true_false (by omega), this] at hx; cases hx
      · exact absurd h.symm hne
      · exact .inr ⟨(u, [], []), by simp, .inl h⟩
    · intro y hy
      obtain rfl := List.mem_singleton.1 hy
      exact ⟨u1, hput u u4 u2, u3, (fun j hj => by cases hj), fun j hj => by cases hj⟩
    · intro t ht
      have e2 : ρ2 t = (ρ.put o.dst v) t := ho2 t fun j hj => by cases hj
      rw [e2]
      have base : ρ' t = ρ t ∨ o.dst = some t := by
        by_cases hd : o.dst = some t
        · exact .inr hd
        · refine .inl (hag t fun j hj hx => ?_)
          rcases hpq j hj with h | h
          · exact ht j h (hput j (fun h2 => hip (h2 ▸ hj)) hx)
          · have := hanc j h
            rw [getD_true_false (by rw [hl]; exact (hst j (hp j hj)).1), this] at hx; cases hx
      cases hdst : o.dst with
      | none =>
        rcases base with h | h
        · exact h
        · rw [hdst] at h; cases h
      | some x =>
        rw [put_at, put_at]
        by_cases htx : t = x
        · rw [if_pos htx, if_pos htx]
        · rw [if_neg htx, if_neg htx]
          rcases base with h | h
          · exact h
          · rw [hdst] at h; injection h with h; exact absurd h.symm htx
    · simp only [pendOk, Bool.and_eq_true, List.all_eq_true, Bool.or_eq_true]
      exact ⟨⟨fun j hj => .inr (hqu j hj), fun j hj => by cases hj⟩, trivial⟩
  cases hstep with
  | val h hn => exact aops_val hN ho (h ρ' hagr).1 (h ρ' hagr).2 (aops_nil (go _ _ _ hn))
  | skip h hn => exact aops_skip hN ho (h ρ' hagr) (aops_nil (go _ _ _ hn))
  | call h hn =>
    refine aops_call hN ho (h ρ' hagr).1 (h ρ' hagr).2 (ACalls.mono hn fun e aw' he => ?_)
    cases e with
    | returned v => exact aops_nil (go _ _ _ he)
    | panicked ch => exact he ρ' hoff
  | panic h hn => exact aops_panic hN ho (h ρ' hagr).1 (h ρ' hagr).2 (hn ρ' hoff)
theorem lin_two (hN : dstsOk N ops = true) (hs : List Nat) (hst : ∀ i ∈ hs, i < ops.size ∧ ∃ d, dstOf ops i = some d ∧ ∀ j ∈ hs, dstOf ops j = some d → j = i)
    (hord : ((List.range ops.size).all fun j => ((ops[j]?).map fun (o : Oper) => o.after.all fun e => !Region.binds .any e || decide (e.on < j)).getD true) = true)
    (hlk : ((List.range ops.size).all fun j => ((ops[j]?).map fun (o : Oper) => (looks ops o).all fun t => hs.all fun i => dstOf ops i != some t || anc ops ops.size j i).getD true) = true)
    {ρ : Env} {ds : List Deferred} {aw : AW} {p : List Nat} {t1 t2 : Nat} {q1 q2 : List Nat} (hne : t1 ≠ t2) (hp : ∀ j ∈ p, j ∈ hs) (hq1 : ∀ j ∈ q1, j ∈ hs) (hq2 : ∀ j ∈ q2, j ∈ hs)
    (hpq1 : ∀ j ∈ p, j ∈ q1 ∨ anc ops ops.size t1 j = true) (hpq2 : ∀ j ∈ p, j ∈ q2 ∨ anc ops ops.size t2 j = true) (hqu1 : ∀ j ∈ q1, anc ops ops.size t2 j = true) (hqu2 : ∀ j ∈ q2, anc ops ops.size t1 j = true)
    (hl1 : LinT P ops Kn Kp [(t1, q1, []), (t2, [], [])] ρ ds aw) (hl2 : LinT P ops Kn Kp [(t2, q2, []), (t1, [], [])] ρ ds aw) (hff : FFl P ops p ρ aw)
    (hs1 : t1 < ops.size ∧ ∀ j ∈ hs, dstOf ops j ≠ dstOf ops t1 ∧ j ≠ t1) (hs2 : t2 < ops.size ∧ ∀ j ∈ hs, dstOf ops j ≠ dstOf ops t2 ∧ j ≠ t2) :
    ∀ (n : Nat) (l : Array Bool) (ρ' : Env), l.size = ops.size → left l = n → (∀ j, j < ops.size → l.getD j true = false → j ∈ p ∨ j = t1 ∨ j = t2) → l.getD t1 true = false → l.getD t2 true = false →
      (∀ j, listedOf l j = true → j < ops.size → ∀ o, ops[j]? = some o → ∀ e ∈ o.after, Region.binds .any e = true → l.getD e.on false = true) →
      (∀ t, (∀ i ∈ p, l.getD i true = false → dstOf ops i ≠ some t) → ρ' t = ρ t) → TailAny P N ops Kn Kp n l ρ' ds aw := by
  have hord0 := hord
  have hlk0 := hlk
  simp only [List.all_eq_true, List.mem_range, decide_eq_true_eq] at hord hlk
  intro n
  induction n with
  | zero =>
    intro l ρ' hl hf hin hu1 hu2 hcl hag
    exfalso
    unfold left at hf
    rw [List.countP_eq_zero] at hf
    have h1 := hs1.1
    have := hf l[t1] (by simp)
    have h1 : l.getD t1 true = true := by
      simp only [Array.getD, hl, h1, dif_pos]
      simpa using this
    rw [h1] at hu1; cases hu1
  | succ n ih =>
    intro l ρ' hl hf hin hu1 hu2 hcl hag
    have hpre : ∀ j o, ops[j]? = some o → ∀ e ∈ o.after, Region.binds .any e = true → e.on < j := by
      intro j o ho e he hb
      have hlt : j < ops.size := (Array.getElem?_eq_some_iff.1 ho).1
      have := hord j hlt
      rw [ho] at this
      simp only [Option.map_some, Option.getD_some, Array.all_eq_true] at this
      obtain ⟨q, hq, rfl⟩ := Array.getElem_of_mem he
      have := this q hq
      simp only [hb, Bool.not_true, Bool.false_or, decide_eq_true_eq] at this
      exact this
    have hanc : ∀ i, i ∈ Region.ready .any ops l → ∀ j, anc ops ops.size i j = true → l.getD j false = true := by
      intro i hi j hj
      obtain ⟨_, _, g3⟩ := ready_spec hi
      exact closed_anc hcl ops.size g3 hj
    have hnext : ∀ i, i ∈ Region.ready .any ops l → (∀ j, listedOf (l.setIfInBounds i true) j = true → j < ops.size → ∀ o, ops[j]? = some o → ∀ e ∈ o.after, Region.binds .any e = true → (l.setIfInBounds i true).getD e.on false = true) := by
      intro i hi j hj hjs o ho e he hb
      obtain ⟨g1, g2, g3⟩ := ready_spec hi
      have up : ∀ x, l.getD x false = true → (l.setIfInBounds i true).getD x false = true := by
        intro x hx
        rw [getD_set]; split
        · rfl
        · exact hx
      unfold listedOf at hj
      rw [getD_set] at hj
      split at hj
      · rename_i hij
        obtain ⟨rfl, _⟩ := hij
        exact up _ (g3 o ho e he hb)
      · exact up _ (hcl j hj hjs o ho e he hb)
    have hlook : ∀ i o, i ∈ Region.ready .any ops l → ops[i]? = some o → Agr ops o ρ ρ' := by
      intro i o hi ho t ht
      obtain ⟨g1, _, _⟩ := ready_spec hi
      refine hag t fun j hj hx hdj => ?_
      have := hlk i g1
      rw [ho] at this
      simp only [Option.map_some, Option.getD_some, List.all_eq_true, Bool.or_eq_true, bne_iff_ne, ne_eq] at this
      rcases this t ht j (hp j hj) with h | h
      · exact h hdj
      · have := hanc i hi j h
        rw [getD_true_false (by rw [hl]; exact (hst j (hp j hj)).1), this] at hx; cases hx
    have hleft : ∀ i, i ∈ Region.ready .any ops l → left (l.setIfInBounds i true) = n := by
      intro i hi
      obtain ⟨_, g2, _⟩ := ready_spec hi
      have := left_set l i g2
      omega
    have hput : ∀ i j, i ≠ j → (l.setIfInBounds i true).getD j true = l.getD j true := by
      intro i j hne
      rw [getD_set, if_neg (fun h => hne h.1)]
    refine ⟨fun hr => ?_, fun i hi => ?_⟩
    · exfalso
      have hfirst : ∃ j, j < ops.size ∧ l.getD j true = false ∧ ∀ i, i < j → l.getD i true = true := by
        have hex : ∃ j, j < ops.size ∧ l.getD j true = false := ⟨t1, hs1.1, hu1⟩
        obtain ⟨j, hj, hx⟩ := hex
        induction j using Nat.strongRecOn with
        | _ j ihj =>
          by_cases h : ∀ i, i < j → l.getD i true = true
          · exact ⟨j, hj, hx, h⟩
          · have : ∃ i, i < j ∧ l.getD i true = false := by
              apply Classical.byContradiction
              intro h'
              apply h
              intro i hi
              cases hy : l.getD i true with
              | true => rfl
              | false => exact absurd ⟨i, hi, hy⟩ h'
            obtain ⟨i, hi, hy⟩ := this
            exact ihj i hi (by omega) hy
      obtain ⟨j, hj, hx, hmin⟩ := hfirst
      have hready : j ∈ Region.ready .any ops l := ready_of hj hx (fun o ho e he hb => by
        have hlt := hpre j o ho e he hb
        have := hmin _ hlt
        rw [getD_true_false (by omega)] at this
        exact this)
      rw [hr] at hready; simp at hready
    · obtain ⟨g1, g2, g3⟩ := ready_spec hi
      have ho : ops[i]? = some ops[i] := Array.getElem?_eq_getElem g1
      by_cases him : i ∈ p
      · obtain ⟨_, d, hdi, hdu⟩ := hst i (hp i him)
        have hod : (ops[i]).dst = some d := by simpa [dstOf, ho] using hdi
        have hag' := hlook i _ hi ho
        have go : TailAny P N ops Kn Kp n (l.setIfInBounds i true) (ρ'.put (ops[i]).dst (ρ d)) ds aw := by
          refine ih _ _ (by simp [hl]) (hleft i hi) ?_ ?_ ?_ (hnext i hi) ?_
          · intro j hj hx
            by_cases hji : i = j
            · subst hji; exact .inl him
            · rw [hput i j hji] at hx; exact hin j hj hx
          · rw [hput i t1 (hs1.2 i (hp i him)).2]; exact hu1
          · rw [hput i t2 (hs2.2 i (hp i him)).2]; exact hu2
          · intro t ht
            rw [hod, put_at]
            by_cases htd : t = d
            · rw [if_pos htd, htd]
            · rw [if_neg htd]
              refine hag t fun j hj hx => ?_
              by_cases hji : i = j
              · subst hji
                rw [hdi]
                exact fun h => htd (by injection h with h; exact h.symm)
              · exact ht j hj (by rw [hput i j hji]; exact hx)
        have hho := hff i him _ ho d hod ρ' hag'
        rcases hho with ⟨w1, w2⟩ | ⟨w1, w2⟩ | ⟨w1, fid, args, w2, w3⟩
        · exact aops_val hN ho w1 w2 (aops_nil go)
        · rw [w2] at go
          exact aops_skip hN ho w1 (aops_nil go)
        · refine aops_call hN ho w1 w2 (ACalls.mono w3 fun e aw' he => ?_)
          obtain ⟨rfl, rfl⟩ := he
          exact aops_nil go
      · rcases (hin i g1 g2).resolve_left him with rfl | rfl
        · exact tail_step hN hs hst hord0 hlk0 hl (hleft _ hi) hi him (fun j hj hx => hin j hj hx) ⟨hs2.1, hu2, hs2.2, hne⟩ (hnext _ hi) (hanc _ hi) hp hq1 hag (fun o ho => hlook _ o hi ho) hpq1 hqu1 hl1
        · exact tail_step hN hs hst hord0 hlk0 hl (hleft _ hi) hi him (fun j hj hx => (hin j hj hx).imp_right Or.symm) ⟨hs1.1, hu1, hs1.2, fun h => hne h.symm⟩ (hnext _ hi) (hanc _ hi) hp hq2 hag (fun o ho => hlook _ o hi ho) hpq2 hqu2 hl2
theorem lin_plan {two : Bool} (hN : dstsOk N ops = true) (hst : ∀ i ∈ hs, i < ops.size ∧ ∃ d, dstOf ops i = some d ∧ ∀ j ∈ hs, dstOf ops j = some d → j = i)
    (hord : ((List.range ops.size).all fun j => ((ops[j]?).map fun (o : Oper) => o.after.all fun e => !Region.binds .any e || decide (e.on < j)).getD true) = true)
    (hlk : ((List.range ops.size).all fun j => ((ops[j]?).map fun (o : Oper) => (looks ops o).all fun t => hs.all fun i => dstOf ops i != some t || anc ops ops.size j i).getD true) = true)
    (hpost : ∀ e ∈ post, e.1 < ops.size ∧ (∀ i ∈ hs, dstOf ops i ≠ dstOf ops e.1 ∧ i ≠ e.1) ∧ (∀ j ∈ e.2.1, j ∈ hs) ∧ ∀ j ∈ e.2.2, j ∈ hs) (hS : Rel P.globals.size base w0 s0 awS wS) (hnp : (post.map (·.1)).Nodup) :
    ∀ (m : Nat) (n : Nat) (pl : List Pe), n + pl.length = m → ∀ (l : Array Bool) (ρ' ρ : Env) (ds : List Deferred) (aw : AW) (p : List Nat) (B : List Flo) (A : ApV) (a : Act) (w : World), l.size = ops.size → left l = n →
      (∀ j, j < ops.size → l.getD j true = false → j ∈ p ∨ (∃ F ∈ B, j = F.x) ∨ (∃ e ∈ pl, j ∈ e.own ∨ j ∈ e.nh) ∨ ∃ e ∈ post, j = e.1 ∨ j ∈ e.2.2) →
      (∀ e ∈ pl, (∀ j ∈ e.own, j < ops.size ∧ l.getD j true = false ∧ (∀ i ∈ hs, dstOf ops i ≠ dstOf ops j ∧ i ≠ j) ∧ ∀ F ∈ B, j ≠ F.x) ∧ (∀ j ∈ e.q, j ∈ hs) ∧ ∀ j ∈ e.nh, j ∈ hs ∧ l.getD j true = false) →
      (∀ e ∈ post, l.getD e.1 true = false ∧ (∀ F ∈ B, e.1 ≠ F.x) ∧ ∀ j ∈ e.2.2, l.getD j true = false) →
      ((pl.flatMap Pe.own) ++ post.map (·.1)).Nodup →
      (∀ j, listedOf l j = true → j < ops.size → ∀ o, ops[j]? = some o → ∀ e ∈ o.after, Region.binds .any e = true → l.getD e.on false = true) →
      (∀ i ∈ p, i ∈ hs) →
      (∀ t, (∀ i ∈ p, l.getD i true = false → dstOf ops i ≠ some t) → ρ' t = ρ t) →
      (∀ F ∈ B, F.x < ops.size ∧ (∀ i ∈ hs, i ≠ F.x) ∧ ∃ o, ops[F.x]? = some o ∧ o.guard = none ∧ o.dst = some F.d ∧ (∀ cs b, o.op ≠ .select cs b) ∧ MakesV P ops o ρ F ∧ ∀ H ∈ B, H.d ∉ looks ops o) →
      (∀ F ∈ B, ∀ H ∈ B, (F.d = H.d ↔ F.x = H.x) ∧ (F.x = H.x → F = H)) →
      planOk two ops post p (B.map fun F => (F.x, F.d)) pl = true →
      (∀ c ∈ A, c.1 ∈ B) → (∀ F ∈ B, l.getD F.x true = true ↔ ∃ c ∈ A, c.1 = F) → (∀ c ∈ A, ∀ c' ∈ A, c.1.x = c'.1.x → c = c') →
      FFl P ops p ρ aw → LinP two P ops post awS Kn Kp pl B ρ ds aw → SM P.globals.size base w0 s0 N A wS.heap.size ρ' ds aw a w →
      wpAny P .any ops (QQ P.globals.size base w0 s0 N Kn Kp) n l a w := by
  have hord0 := hord
  have hlk0 := hlk
  simp only [List.all_eq_true, List.mem_range, decide_eq_true_eq] at hord hlk
  intro m
  induction m using Nat.strongRecOn with
  | _ m ih =>
  intro n pl hm l ρ' ρ ds aw p B A a w hl hf hin hpl hpo hnd hcl hp hag hB hBd hok hAB hAl hAx hff hlin hsm
  have hpre : ∀ j o, ops[j]? = some o → ∀ e ∈ o.after, Region.binds .any e = true → e.on < j := by
    intro j o ho e he hb
    have hlt : j < ops.size := (Array.getElem?_eq_some_iff.1 ho).1
    have := hord j hlt
    rw [ho] at this
    simp only [Option.map_some, Option.getD_some, Array.all_eq_true] at this
    obtain ⟨q, hq, rfl⟩ := Array.getElem_of_mem he
    have := this q hq
    simp only [hb, Bool.not_true, Bool.false_or, decide_eq_true_eq] at this
    exact this
  have hanc : ∀ i, i ∈ Region.ready .any ops l → ∀ j, anc ops ops.size i j = true → l.getD j false = true := by
    intro i hi j hj
    obtain ⟨_, _, g3⟩ := ready_spec hi
    exact closed_anc hcl ops.size g3 hj
  have hancl : ∀ i, i < ops.size → l.getD i true = true → ∀ j, anc ops ops.size i j = true → l.getD j false = true := by
    intro i hi hx j hj
    exact closed_anc (ops := ops) (l := l) hcl ops.size (j := i) (i := j) (fun o ho e he hb => hcl i (by unfold listedOf; exact hx) hi o ho e he hb) hj
  have hnext : ∀ i, i ∈ Region.ready .any ops l → (∀ j, listedOf (l.setIfInBounds i true) j = true → j < ops.size → ∀ o, ops[j]? = some o → ∀ e ∈ o.after, Region.binds .any e = true → (l.setIfInBounds i true).getD e.on false = true) := by
    intro i hi j hj hjs o ho e he hb
    obtain ⟨g1, g2, g3⟩ := ready_spec hi
    have up : ∀ x, l.getD x false = true → (l.setIfInBounds i true).getD x false = true := by
      intro x hx
      rw [getD_set]; split
      · rfl
      · exact hx
    unfold listedOf at hj
    rw [getD_set] at hj
    split at hj
    · rename_i hij
      obtain ⟨rfl, _⟩ := hij
      exact up _ (g3 o ho e he hb)
    · exact up _ (hcl j hj hjs o ho e he hb)
  have hlook : ∀ i o, i ∈ Region.ready .any ops l → ops[i]? = some o → Agr ops o ρ ρ' := by
    intro i o hi ho t ht
    obtain ⟨g1, _, _⟩ := ready_spec hi
    refine hag t fun j hj hx hdj => ?_
    have := hlk i g1
    rw [ho] at this
    simp only [Option.map_some, Option.getD_some, List.all_eq_true, Bool.or_eq_true, bne_iff_ne, ne_eq] at this
    rcases this t ht j (hp j hj) with h | h
    · exact h hdj
    · have := hanc i hi j h
      rw [getD_true_false (by rw [hl]; exact (hst j (hp j hj)).1), this] at hx; cases hx
  have hsz : ∀ i, (l.setIfInBounds i true).size = ops.size := fun i => by simp [hl]
  have hleft : ∀ n', n = n' + 1 → ∀ i, i ∈ Region.ready .any ops l → left (l.setIfInBounds i true) = n' := by
    intro n' hn i hi
    obtain ⟨_, g2, _⟩ := ready_spec hi
    have := left_set l i g2
    omega
  have hkeep : ∀ i j, (l.setIfInBounds i true).getD j true = false → i ≠ j ∧ l.getD j true = false := by
    intro i j hx
    rw [getD_set] at hx
    split at hx
    · cases hx
    · rename_i hne
      refine ⟨fun h => ?_, hx⟩
      subst h
      have : ¬ i < l.size := fun h => hne ⟨rfl, h⟩
      simp [Array.getD, this] at hx
  have hput : ∀ i j, i ≠ j → (l.setIfInBounds i true).getD j true = l.getD j true := by
    intro i j hne
    rw [getD_set, if_neg (fun h => hne h.1)]
  have hpos : (∃ j, j < ops.size ∧ l.getD j true = false) → ∃ n', n = n' + 1 := by
    rintro ⟨j, hj, hx⟩
    cases n with
    | succ n' => exact ⟨n', rfl⟩
    | zero =>
      exfalso
      unfold left at hf
      rw [List.countP_eq_zero] at hf
      have := hf l[j] (by simp)
      have h1 : l.getD j true = true := by
        simp only [Array.getD, hl, hj, dif_pos]
        simpa using this
      rw [h1] at hx; cases hx
  have hready0 : (∃ j, j < ops.size ∧ l.getD j true = false) → Region.ready .any ops l ≠ [] := by
    intro hex hr
    have hfirst : ∃ j, j < ops.size ∧ l.getD j true = false ∧ ∀ i, i < j → l.getD i true = true := by
      obtain ⟨j, hj, hx⟩ := hex
      induction j using Nat.strongRecOn with
      | _ j ihj =>
        by_cases h : ∀ i, i < j → l.getD i true = true
        · exact ⟨j, hj, hx, h⟩
        · have : ∃ i, i < j ∧ l.getD i true = false := by
            apply Classical.byContradiction
            intro h'
            apply h
            intro i hi
            cases hy : l.getD i true with
            | true => rfl
            | false => exact absurd ⟨i, hi, hy⟩ h'
          obtain ⟨i, hi, hy⟩ := this
          exact ihj i hi (by omega) hy
    obtain ⟨j, hj, hx, hmin⟩ := hfirst
    have hready : j ∈ Region.ready .any ops l := ready_of hj hx (fun o ho e he hb => by
      have hlt := hpre j o ho e he hb
      have := hmin _ hlt
      rw [getD_true_false (by omega)] at this
      exact this)
    rw [hr] at hready; simp at hready
  have explore : ∀ n', n = n' + 1 → (∃ j, j < ops.size ∧ l.getD j true = false) → (∀ i ∈ p, ∀ o, ops[i]? = some o → ∀ c ∈ A, Early ops c.1.d o) → freshP p pl post = true →
      (∀ i ∈ Region.ready .any ops l, i ∉ p → (∀ F ∈ B, i ≠ F.x) → wpOp P ops (QQ P.globals.size base w0 s0 N Kn Kp) i (fun a w => wpAny P .any ops (QQ P.globals.size base w0 s0 N Kn Kp) n' (l.setIfInBounds i true) a w) a w) →
      wpAny P .any ops (QQ P.globals.size base w0 s0 N Kn Kp) n l a w := by
    intro n' hn hex hea hfr hlast
    subst hn
    refine ⟨fun hr => absurd hr (hready0 hex), fun i hi => ?_⟩
    obtain ⟨g1, g2, g3⟩ := ready_spec hi
    have ho : ops[i]? = some ops[i] := Array.getElem?_eq_getElem g1
    have hag' := hlook i _ hi ho
    by_cases him : i ∈ p
    · obtain ⟨_, d', hdi, hdu⟩ := hst i (hp i him)
      have hod : (ops[i]).dst = some d' := by simpa [dstOf, ho] using hdi
      have hho := hff i him _ ho d' hod
      refine hsm.read hN ho (fun c hc => hea i him _ ho c hc) (fun ρ2 hρ2 => hho ρ2 fun t' ht' => (hρ2 t' ht').trans (hag' t' ht')) fun a' w' hsm' => ?_
      refine ih (n' + pl.length) (by omega) n' pl rfl _ _ ρ ds aw p B A a' w' (hsz i) (hleft n' rfl i hi) ?_ ?_ ?_ hnd (hnext i hi) hp ?_ hB hBd hok hAB ?_ hAx hff hlin hsm'
      · intro j hj hx
        exact hin j hj (hkeep i j hx).2
      · intro e he
        obtain ⟨b1, b2, b3⟩ := hpl e he
        refine ⟨fun j hj => ?_, b2, fun j hj => ⟨(b3 j hj).1, ?_⟩⟩
        · obtain ⟨c1, c2, c3, c4⟩ := b1 j hj
          exact ⟨c1, by rw [hput i j (c3 i (hp i him)).2]; exact c2, c3, c4⟩
        · rw [hput i j ?_]; exact (b3 j hj).2
          intro hij
          subst hij
          exact (freshP_spec hfr him).1 e he hj
      · intro e he
        obtain ⟨b1, b2, b3⟩ := hpo e he
        obtain ⟨c1, c2, c3, c4⟩ := hpost e he
        refine ⟨by rw [hput i _ (c2 i (hp i him)).2]; exact b1, b2, fun j hj => ?_⟩
        rw [hput i j ?_]; exact b3 j hj
        intro hij
        subst hij
        exact (freshP_spec hfr him).2 e he hj
      · intro t' ht
        rw [hod, put_at]
        by_cases htd : t' = d'
        · rw [if_pos htd, htd]
        · rw [if_neg htd]
          refine hag t' fun j hj hx => ?_
          by_cases hji : i = j
          · subst hji
            rw [hdi]
            exact fun h => htd (by injection h with h; exact h.symm)
          · exact ht j hj (by rw [hput i j hji]; exact hx)
      · intro F hF
        rw [hput i F.x ((hB F hF).2.1 i (hp i him))]
        exact hAl F hF
    · rcases Classical.em (∃ F ∈ B, i = F.x) with ⟨F, hF, hiF⟩ | hno
      · subst hiF
        obtain ⟨f1, f2, o, f3, f4, f5, f6, f7, f8⟩ := hB F hF
        have hoo : o = ops[F.x] := by rw [ho] at f3; exact (Option.some.inj f3).symm
        have hnm : ¬ ∃ c ∈ A, c.1 = F := fun h => by rw [(hAl F hF).2 h] at g2; cases g2
        have hdN : F.d < N := dstsOk_get hN (j := F.x) (by simp [f3, f5])
        refine hsm.make f3 f4 f5 hdN (f7.agr (by rw [hoo]; exact hag')) ?_ f6 ?_ fun a' w' cb cs hsm' => ?_
        · intro hmem
          obtain ⟨c, hc, hcd⟩ := List.mem_map.1 hmem
          obtain ⟨h1, h2⟩ := hBd c.1 (hAB c hc) F hF
          exact hnm ⟨c, hc, h2 (h1.1 hcd)⟩
        · intro d hd
          obtain ⟨c, hc, rfl⟩ := List.mem_map.1 hd
          exact f8 c.1 (hAB c hc)
        · refine ih (n' + pl.length) (by omega) n' pl rfl _ ρ' ρ ds aw p B ((F, cb, cs) :: A) a' w' (hsz _) (hleft n' rfl _ hi) ?_ ?_ ?_ hnd (hnext _ hi) hp ?_ hB hBd hok ?_ ?_ ?_ hff hlin hsm'
          · intro j hj hx
            exact hin j hj (hkeep _ j hx).2
          · intro e he
            obtain ⟨b1, b2, b3⟩ := hpl e he
            refine ⟨fun j hj => ?_, b2, fun j hj => ⟨(b3 j hj).1, ?_⟩⟩
            · obtain ⟨c1, c2, c3, c4⟩ := b1 j hj
              exact ⟨c1, by rw [hput _ j (fun h => c4 F hF h.symm)]; exact c2, c3, c4⟩
            · rw [hput _ j (fun h => f2 j (b3 j hj).1 h.symm)]; exact (b3 j hj).2
          · intro e he
            obtain ⟨b1, b2, b3⟩ := hpo e he
            obtain ⟨c1, c2, c3, c4⟩ := hpost e he
            exact ⟨by rw [hput _ _ (fun h => b2 F hF h.symm)]; exact b1, b2, fun j hj => by rw [hput _ j (fun h => f2 j (c4 j hj) h.symm)]; exact b3 j hj⟩
          · intro t' ht
            exact hag t' fun j hj hx => ht j hj (by rw [hput _ j (fun h => f2 j (hp j hj) h.symm)]; exact hx)
          · intro c hc
            rcases List.mem_cons.1 hc with rfl | hc
            · exact hF
            · exact hAB c hc
          · intro H hH
            by_cases hx : F.x = H.x
            · have := (hBd F hF H hH).2 hx
              subst this
              rw [getD_set, if_pos ⟨rfl, by omega⟩]
              exact ⟨fun _ => ⟨_, List.mem_cons_self .., rfl⟩, fun _ => rfl⟩
            · rw [hput _ _ hx, hAl H hH]
              constructor
              · rintro ⟨c, hc, h⟩
                exact ⟨c, List.mem_cons_of_mem _ hc, h⟩
              · rintro ⟨c, hc, h⟩
                rcases List.mem_cons.1 hc with rfl | hc
                · exact absurd (by rw [← h]) hx
                · exact ⟨c, hc, h⟩
          · intro c hc c' hc' hx
            have key : ∀ c ∈ A, c.1.x ≠ F.x := fun c hc h => hnm ⟨c, hc, (hBd c.1 (hAB c hc) F hF).2 h⟩
            rcases List.mem_cons.1 hc with rfl | hc
            · rcases List.mem_cons.1 hc' with rfl | hc'
              · rfl
              · exact absurd hx.symm (key c' hc')
            · rcases List.mem_cons.1 hc' with rfl | hc'
              · exact absurd hx (key c hc)
              · exact hAx c hc c' hc' hx
      · exact hlast i hi him fun F hF h => hno ⟨F, hF, h⟩
  cases pl with
  | nil =>
    obtain ⟨rfl, hlin⟩ := hlin
    have hA : A = [] := by
      cases A with
      | nil => rfl
      | cons c A => exact absurd (hAB c (List.mem_cons_self ..)) (by simp)
    subst hA
    obtain ⟨⟨s1, k1, k2, _⟩, _, _, _⟩ := hsm
    have k2 : St P.globals.size base w0 s1 ρ' N ds aw a w := by
      have e : hide (ApV.ds []) ρ' = ρ' := by funext t; simp [hide, ApV.ds]
      rw [e] at k2; exact k2
    have ht : TailAny P N ops Kn Kp n l ρ' ds aw := by
      cases two with
      | true =>
        obtain ⟨t1, q1, t2, q2, rfl, hl1, hl2⟩ := hlin
        simp only [planOk, cond_true, twoOk, Bool.and_eq_true, List.all_eq_true, Bool.or_eq_true] at hok
        obtain ⟨⟨⟨w1, w2⟩, w3⟩, w4⟩ := hok
        obtain ⟨b1, b2, b3, b4⟩ := hpost (t1, q1, []) (by simp)
        obtain ⟨c1, c2, c3, c4⟩ := hpost (t2, q2, []) (by simp)
        refine lin_two hN hs hst hord0 hlk0 (t1 := t1) (t2 := t2) (by simpa using hnp) hp b3 c3 (fun j hj => (w1 j hj).imp_left fun h => by simpa using h) (fun j hj => (w2 j hj).imp_left fun h => by simpa using h) w3 w4 hl1 hl2 hff ⟨b1, b2⟩ ⟨c1, c2⟩ n l ρ' hl hf ?_ (hpo (t1, q1, []) (by simp)).1 (hpo (t2, q2, []) (by simp)).1 hcl hag
        intro j hj hx
        rcases hin j hj hx with h | ⟨F, hF, _⟩ | ⟨e, he, _⟩ | ⟨e, he, h⟩
        · exact .inl h
        · cases hF
        · cases he
        · simp only [List.mem_cons, List.not_mem_nil, or_false] at he
          rcases he with rfl | rfl
          · rcases h with h | h
            · exact .inr (.inl h)
            · cases h
          · rcases h with h | h
            · exact .inr (.inr h)
            · cases h
      | false =>
      simp only [planOk, cond_false, Bool.and_eq_true] at hok
      refine lin_tail hN hs hst hord0 hlk0 n l ρ' ρ ds aw p post hl hf ?_ ?_ hcl hp hag hok.1 hok.2 hnp hff hlin
      · intro j hj hx
        rcases hin j hj hx with h | ⟨F, hF, _⟩ | ⟨e, he, _⟩ | h
        · exact .inl h
        · cases hF
        · cases he
        · exact .inr h
      · intro e he
        obtain ⟨b1, _, b3⟩ := hpo e he
        obtain ⟨c1, c2, c3, c4⟩ := hpost e he
        exact ⟨c1, b1, c2, c3, fun j hj => ⟨c4 j hj, b3 j hj⟩⟩
    exact wpAny_mono' (fun e a w => QQ.mono k1) (fun a w => QQ.not_outgrown a w) n _ _ _ (tail_sound n l ρ' ds aw ht base w0 s1 a w k2)
  | cons e0 r =>
    have later : ∀ k, l.getD k true = false → k < ops.size → awaitP ops k r post = true → ∀ i ∈ Region.ready .any ops l, i ∉ p → (∀ F ∈ B, i ≠ F.x) → i ∈ e0.own ∨ i ∈ e0.nh := by
      intro k hk hks haw i hi h1 h2
      simp only [awaitP, Bool.and_eq_true, List.all_eq_true] at haw
      obtain ⟨w1, w2⟩ := haw
      obtain ⟨g1, g2, _⟩ := ready_spec hi
      have no : anc ops ops.size i k = true → False := fun h => by
        have := hanc i hi k h
        rw [getD_true_false (by omega), this] at hk; cases hk
      rcases hin i g1 g2 with h | ⟨F, hF, h⟩ | ⟨e, he, h⟩ | ⟨e, he, h⟩
      · exact absurd h h1
      · exact absurd h (h2 F hF)
      · rcases List.mem_cons.1 he with rfl | he
        · exact h
        · rcases h with h | h
          · exact (no ((w1 e he).1 i h)).elim
          · exact (no ((w1 e he).2 i h)).elim
      · rcases h with h | h
        · exact (no (by rw [h]; exact (w2 e he).1)).elim
        · exact (no ((w2 e he).2 i h)).elim
    have hnd0 : (e0.own ++ (r.flatMap Pe.own ++ post.map (·.1))).Nodup := by
      have := hnd
      rw [List.flatMap_cons, List.append_assoc] at this
      exact this
    have hndr := (List.nodup_append.1 hnd0).2.1
    have hnd1 : ∀ j ∈ e0.own, (∀ e ∈ r, j ∉ e.own) ∧ ∀ e ∈ post, e.1 ≠ j := fun j hj => by
      have h := (List.nodup_append.1 hnd0).2.2 j hj
      refine ⟨fun e he hm => h j (List.mem_append.2 (.inl (List.mem_flatMap.2 ⟨e, he, hm⟩))) rfl, fun e he hej => h e.1 (List.mem_append.2 (.inr (List.mem_map.2 ⟨e, he, rfl⟩))) hej.symm⟩
    cases e0 with
    | birth x d =>
      obtain ⟨o, F, ho, rfl, rfl, hmk, hlin⟩ := hlin
      simp only [planOk, Bool.and_eq_true] at hok
      obtain ⟨⟨hum, hfl⟩, hok⟩ := hok
      have hum : ∀ H ∈ B, H.x ≠ F.x ∧ H.d ≠ F.d ∧ earlyB ops [(F.x, F.d)] H.x = true ∧ earlyB ops [(H.x, H.d)] F.x = true := fun H hH => by
        have := (List.all_eq_true.1 hum) (H.x, H.d) (List.mem_map.2 ⟨H, hH, rfl⟩)
        simp only [Bool.and_eq_true, bne_iff_ne, ne_eq] at this
        obtain ⟨⟨⟨h1, h2⟩, h3⟩, h4⟩ := this
        exact ⟨h1, h2, h3, h4⟩
      have hfl : o.guard = none ∧ o.dst = some F.d ∧ notSel o.op = true ∧ F.d ∉ looks ops o := by
        unfold floB at hfl
        rw [ho] at hfl
        simp only [Option.map_some, Option.getD_some, Bool.and_eq_true, beq_iff_eq, Bool.not_eq_true', Option.isNone_iff_eq_none] at hfl
        obtain ⟨⟨⟨h1, h2⟩, h3⟩, h4⟩ := hfl
        exact ⟨h1, h2, h3, fun hm => by simp [hm] at h4⟩
      obtain ⟨x1, x2, x3⟩ := hpl (.birth F.x F.d) (List.mem_cons_self ..)
      obtain ⟨x4, x5, x6, x7⟩ := x1 F.x (by simp [Pe.own])
      obtain ⟨y1, y2⟩ := hnd1 F.x (by simp [Pe.own])
      refine ih (n + r.length) (by simp at hm; omega) n r rfl l ρ' ρ ds aw p (F :: B) A a w hl hf ?_ ?_ ?_ hndr hcl hp hag ?_ ?_ ?_ (fun c hc => List.mem_cons_of_mem _ (hAB c hc)) ?_ hAx hff hlin hsm
      · intro j hj hx
        rcases hin j hj hx with h | ⟨H, hH, h⟩ | ⟨e, he, h⟩ | h
        · exact .inl h
        · exact .inr (.inl ⟨H, List.mem_cons_of_mem _ hH, h⟩)
        · rcases List.mem_cons.1 he with rfl | he
          · rcases h with h | h
            · exact .inr (.inl ⟨F, List.mem_cons_self .., by simpa [Pe.own] using h⟩)
            · simp [Pe.nh] at h
          · exact .inr (.inr (.inl ⟨e, he, h⟩))
        · exact .inr (.inr (.inr h))
      · intro e he
        obtain ⟨b1, b2, b3⟩ := hpl e (List.mem_cons_of_mem _ he)
        refine ⟨fun j hj => ?_, b2, b3⟩
        obtain ⟨c1, c2, c3, c4⟩ := b1 j hj
        refine ⟨c1, c2, c3, fun H hH => ?_⟩
        rcases List.mem_cons.1 hH with rfl | hH
        · exact fun h => y1 e he (h ▸ hj)
        · exact c4 H hH
      · intro e he
        obtain ⟨b1, b2, b3⟩ := hpo e he
        refine ⟨b1, fun H hH => ?_, b3⟩
        rcases List.mem_cons.1 hH with rfl | hH
        · exact y2 e he
        · exact b2 H hH
      · intro H hH
        rcases List.mem_cons.1 hH with rfl | hHb
        · refine ⟨x4, fun i hi => (x6 i hi).2, o, ho, hfl.1, hfl.2.1, notSel_spec hfl.2.2.1, hmk, fun H' hH' => ?_⟩
          rcases List.mem_cons.1 hH' with rfl | hH'
          · exact hfl.2.2.2
          · exact (earlyB_spec (hum H' hH').2.2.2 ho (H'.x, H'.d) (by simp)).1
        · obtain ⟨f1, f2, o', f3, f4, f5, f6, f7, f8⟩ := hB H hHb
          refine ⟨f1, f2, o', f3, f4, f5, f6, f7, fun H' hH' => ?_⟩
          rcases List.mem_cons.1 hH' with h | hH'
          · rw [h]; exact (earlyB_spec (hum H hHb).2.2.1 f3 (F.x, F.d) (by simp)).1
          · exact f8 H' hH'
      · intro H hH H' hH'
        rcases List.mem_cons.1 hH with rfl | hHb
        · rcases List.mem_cons.1 hH' with rfl | hH'
          · exact ⟨Iff.intro (fun _ => rfl) (fun _ => rfl), fun _ => rfl⟩
          · obtain ⟨u1, u2, _⟩ := hum H' hH'
            exact ⟨Iff.intro (fun h => absurd h.symm u2) (fun h => absurd h.symm u1), fun h => absurd h.symm u1⟩
        · rcases List.mem_cons.1 hH' with h | hH'
          · rw [h]
            obtain ⟨u1, u2, _⟩ := hum H hHb
            exact ⟨Iff.intro (fun h => absurd h u2) (fun h => absurd h u1), fun h => absurd h u1⟩
          · exact hBd H hHb H' hH'
      · exact hok
      · intro H hH
        rcases List.mem_cons.1 hH with rfl | hH
        · rw [x5]
          refine ⟨fun h => (by cases h), ?_⟩
          rintro ⟨c, hc, h⟩
          exact absurd (by rw [h]) (hum c.1 (hAB c hc)).1
        · exact hAl H hH
    | meet x q nh =>
      obtain ⟨F, hF, rfl, hro, ρ2, ho2, hff2, hlin⟩ := hlin
      simp only [planOk, Bool.and_eq_true] at hok
      obtain ⟨⟨⟨⟨⟨⟨⟨hfr, hpq⟩, hnx⟩, haw⟩, hep⟩, hld⟩, hln⟩, hok⟩ := hok
      simp only [List.all_eq_true, Bool.or_eq_true] at hpq hnx hep hld hln
      obtain ⟨f1, f2, o, f3, f4, f5, f6, f7, f8⟩ := hB F hF
      have hfm : ∀ H, H ∈ B.filter (fun H => H.x != F.x) ↔ H ∈ B ∧ H.x ≠ F.x := fun H => by simp [List.mem_filter]
      have hum : ∀ H ∈ B, H.x ≠ F.x → (H.x, H.d) ∈ (B.map fun F => (F.x, F.d)).filter fun g => g.1 != F.x := fun H hH hne => List.mem_filter.2 ⟨List.mem_map.2 ⟨H, hH, rfl⟩, by simpa using hne⟩
      have hAF : ∀ c ∈ A, c.1.x = F.x → c.1 = F := fun c hc h => (hBd c.1 (hAB c hc) F hF).2 h
      obtain ⟨x1, x2, x3⟩ := hpl (.meet F.x q nh) (List.mem_cons_self ..)
      rcases Classical.em (∃ c ∈ A, c.1 = F) with ⟨c0, hc0, hcF⟩ | hnm
      · -- it is made
        have hFl : l.getD F.x true = true := (hAl F hF).2 ⟨c0, hc0, hcF⟩
        obtain ⟨F', cb, cs⟩ := c0
        simp only at hcF
        subst hcF
        have hsm' := hsm.meet hS hc0 f7.vr (fun p hp' => (hBd p.1 (hAB p hp') F' hF).1) (fun p hp' h => hAx p hp' _ hc0 h) hro
        have hunl : ∀ i ∈ p, l.getD i true = false → i ∈ q := fun i hi hx => by
          rcases hpq i hi with h | h
          · simpa using h
          · have := hancl F'.x f1 hFl i h
            rw [getD_true_false (by rw [hl]; exact (hst i (hp i hi)).1), this] at hx; cases hx
        refine ih (n + r.length) (by simp at hm; omega) n r rfl l _ ρ2 ds _ (q ++ nh) (B.filter fun H => H.x != F'.x) (A.filter fun p => p.1.x != F'.x) a w hl hf ?_ ?_ ?_ hndr hcl ?_ ?_ ?_ ?_ ?_ ?_ ?_ ?_ hff2 hlin hsm'
        · intro j hj hx
          rcases hin j hj hx with h | ⟨H, hH, h⟩ | ⟨e, he, h⟩ | h
          · exact .inl (List.mem_append.2 (.inl (hunl j h hx)))
          · by_cases hne : H.x = F'.x
            · rw [h, hne, hFl] at hx; cases hx
            · exact .inr (.inl ⟨H, (hfm H).2 ⟨hH, hne⟩, h⟩)
          · rcases List.mem_cons.1 he with rfl | he
            · rcases h with h | h
              · simp [Pe.own] at h
              · exact .inl (List.mem_append.2 (.inr h))
            · exact .inr (.inr (.inl ⟨e, he, h⟩))
          · exact .inr (.inr (.inr h))
        · intro e he
          obtain ⟨b1, b2, b3⟩ := hpl e (List.mem_cons_of_mem _ he)
          refine ⟨fun j hj => ?_, b2, b3⟩
          obtain ⟨c1, c2, c3, c4⟩ := b1 j hj
          exact ⟨c1, c2, c3, fun H hH => c4 H ((hfm H).1 hH).1⟩
        · intro e he
          obtain ⟨b1, b2, b3⟩ := hpo e he
          exact ⟨b1, fun H hH => b2 H ((hfm H).1 hH).1, b3⟩
        · intro i hi
          rcases List.mem_append.1 hi with h | h
          · exact x2 i h
          · exact (x3 i h).1
        · intro t ht
          have e2 : ρ2 t = (ρ.put (some F'.d) (F'.ref aw.next)) t := ho2 t fun j hj => ht j (List.mem_append.2 (.inr hj)) (x3 j hj).2
          rw [e2, put_at, put_at]
          by_cases htd : t = F'.d
          · rw [if_pos htd, if_pos htd]
          · rw [if_neg htd, if_neg htd]
            exact hag t fun j hj hx => ht j (List.mem_append.2 (.inl (hunl j hj hx))) hx
        · intro H hH
          obtain ⟨h1, h2⟩ := (hfm H).1 hH
          obtain ⟨e1, e2, o', e3, e4, e5, e6, e7, e8⟩ := hB H h1
          refine ⟨e1, e2, o', e3, e4, e5, e6, e7.agr fun t ht => ?_, fun H' hH' => e8 H' ((hfm H').1 hH').1⟩
          have q1 : ρ2 t = (ρ.put (some F'.d) (F'.ref aw.next)) t := ho2 t fun j hj => lateB_spec (hln j hj) (hum H h1 h2) e3 t ht
          have q2 := (hld (F'.x, F'.d) (List.mem_map.2 ⟨F', hF, rfl⟩)).resolve_left (by simp)
          rw [q1, put_at, if_neg]
          exact fun h => lateB_spec q2 (hum H h1 h2) e3 t ht (by rw [h])
        · intro H hH H' hH'
          exact hBd H ((hfm H).1 hH).1 H' ((hfm H').1 hH').1
        · have : (B.filter fun H => H.x != F'.x).map (fun F => (F.x, F.d)) = (B.map fun F => (F.x, F.d)).filter fun g => g.1 != F'.x := by
            rw [List.filter_map]; rfl
          rw [this]
          exact hok
        · intro c hc
          obtain ⟨h1, h2⟩ := List.mem_filter.1 hc
          exact (hfm c.1).2 ⟨hAB c h1, by simpa using h2⟩
        · intro H hH
          obtain ⟨h1, h2⟩ := (hfm H).1 hH
          rw [hAl H h1]
          constructor
          · rintro ⟨c, hc, h⟩
            exact ⟨c, List.mem_filter.2 ⟨hc, by rw [h]; simpa using h2⟩, h⟩
          · rintro ⟨c, hc, h⟩
            exact ⟨c, (List.mem_filter.1 hc).1, h⟩
        · intro c hc c' hc' hx
          exact hAx c (List.mem_filter.1 hc).1 c' (List.mem_filter.1 hc').1 hx
      · -- it isn't yet
        have hFl : l.getD F.x true = false := by
          cases hx : l.getD F.x true with
          | false => rfl
          | true => exact absurd ((hAl F hF).1 hx) hnm
        obtain ⟨n', hn'⟩ := hpos ⟨F.x, f1, hFl⟩
        refine explore n' hn' ⟨F.x, f1, hFl⟩ (fun i hi o ho c hc => ?_) hfr fun i hi h1 h2 => ?_
        · have hne : c.1.x ≠ F.x := fun h => hnm ⟨c, hc, hAF c hc h⟩
          exact earlyB_spec (hep i hi) ho (c.1.x, c.1.d) (hum c.1 (hAB c hc) hne)
        · exfalso
          rcases later F.x hFl f1 haw i hi h1 h2 with h | h
          · simp [Pe.own] at h
          · have := hanc i hi F.x (hnx i h)
            rw [getD_true_false (by omega), this] at hFl; cases hFl
    | loud t q nh =>
      simp only [planOk, Bool.and_eq_true] at hok
      obtain ⟨⟨⟨⟨⟨⟨⟨⟨hfr, hpq⟩, hnx⟩, haw⟩, hep⟩, het⟩, hlt⟩, hln⟩, hok⟩ := hok
      simp only [List.all_eq_true, Bool.or_eq_true] at hpq hnx hep hln
      obtain ⟨x1, x2, x3⟩ := hpl (.loud t q nh) (List.mem_cons_self ..)
      obtain ⟨x4, x5, x6, x7⟩ := x1 t (by simp [Pe.own])
      obtain ⟨y1, y2⟩ := hnd1 t (by simp [Pe.own])
      obtain ⟨n', hn'⟩ := hpos ⟨t, x4, x5⟩
      refine explore n' hn' ⟨t, x4, x5⟩ (fun i hi o ho c hc => earlyB_spec (hep i hi) ho (c.1.x, c.1.d) (List.mem_map.2 ⟨c.1, hAB c hc, rfl⟩)) hfr fun i hi h1 h2 => ?_
      obtain ⟨g1, g2, g3⟩ := ready_spec hi
      have hit : i = t := by
        rcases later t x5 x4 haw i hi h1 h2 with h | h
        · simpa [Pe.own] using h
        · exfalso
          have := hanc i hi t (hnx i h)
          rw [getD_true_false (by omega), this] at x5; cases x5
      subst hit
      obtain ⟨o, ho, hstep⟩ := hlin
      have hag' := hlook i o hi ho
      have hdo : dstOf ops i = o.dst := by simp [dstOf, ho]
      have hEa : ∀ c ∈ A, Early ops c.1.d o := fun c hc => earlyB_spec het ho (c.1.x, c.1.d) (List.mem_map.2 ⟨c.1, hAB c hc, rfl⟩)
      have go : ∀ (v : Value) (ds' : List Deferred) (aw' : AW) (a' : Act) (w' : World), ds' = ds → (∃ ρ2, OffL ops nh (ρ.put o.dst v) ρ2 ∧ FFl P ops (q ++ nh) ρ2 aw' ∧ LinP two P ops post awS Kn Kp r B ρ2 ds' aw') →
          SM P.globals.size base w0 s0 N A wS.heap.size (ρ'.put o.dst v) ds aw' a' w' → wpAny P .any ops (QQ P.globals.size base w0 s0 N Kn Kp) n' (l.setIfInBounds i true) a' w' := by
        rintro v ds' aw' a' w' rfl ⟨ρ2, ho2, hff', hlin'⟩ hsm'
        refine ih (n' + r.length) (by simp at hm; omega) n' r rfl _ _ ρ2 _ aw' (q ++ nh) B A a' w' (hsz i) (hleft n' hn' i hi) ?_ ?_ ?_ hndr (hnext i hi) ?_ ?_ ?_ hBd hok hAB ?_ hAx hff' hlin' hsm'
        · intro j hj hx
          obtain ⟨hne, hx⟩ := hkeep i j hx
          rcases hin j hj hx with h | h | ⟨e, he, h⟩ | h
          · rcases hpq j h with h | h
            · exact .inl (List.mem_append.2 (.inl (by simpa using h)))
            · have := hanc i hi j h
              rw [getD_true_false (by omega), this] at hx; cases hx
          · exact .inr (.inl h)
          · rcases List.mem_cons.1 he with rfl | he
            · rcases h with h | h
              · exact absurd (by simpa [Pe.own] using h) (fun h : j = i => hne h.symm)
              · exact .inl (List.mem_append.2 (.inr h))
            · exact .inr (.inr (.inl ⟨e, he, h⟩))
          · exact .inr (.inr (.inr h))
        · intro e he
          obtain ⟨b1, b2, b3⟩ := hpl e (List.mem_cons_of_mem _ he)
          refine ⟨fun j hj => ?_, b2, fun j hj => ⟨(b3 j hj).1, ?_⟩⟩
          · obtain ⟨c1, c2, c3, c4⟩ := b1 j hj
            exact ⟨c1, by rw [hput i j (fun h => y1 e he (h ▸ hj))]; exact c2, c3, c4⟩
          · rw [hput i j (fun h => (x6 j (b3 j hj).1).2 h.symm)]; exact (b3 j hj).2
        · intro e he
          obtain ⟨b1, b2, b3⟩ := hpo e he
          obtain ⟨c1, c2, c3, c4⟩ := hpost e he
          exact ⟨by rw [hput i _ (fun h => y2 e he h.symm)]; exact b1, b2, fun j hj => by rw [hput i j (fun h => (x6 j (c4 j hj)).2 h.symm)]; exact b3 j hj⟩
        · intro j hj
          rcases List.mem_append.1 hj with h | h
          · exact x2 j h
          · exact (x3 j h).1
        · intro t' ht
          have e2 : ρ2 t' = (ρ.put o.dst v) t' := ho2 t' fun j hj => ht j (List.mem_append.2 (.inr hj)) (by rw [hput i j (fun h => (x6 j (x3 j hj).1).2 h.symm)]; exact (x3 j hj).2)
          rw [e2]
          have base' : ρ' t' = ρ t' ∨ o.dst = some t' := by
            by_cases hd : o.dst = some t'
            · exact .inr hd
            · refine .inl (hag t' fun j hj hx => ?_)
              rcases hpq j hj with h | h
              · exact ht j (List.mem_append.2 (.inl (by simpa using h))) (by rw [hput i j (fun h2 => h1 (h2 ▸ hj))]; exact hx)
              · have := hanc i hi j h
                rw [getD_true_false (by rw [hl]; exact (hst j (hp j hj)).1), this] at hx; cases hx
          cases hdst : o.dst with
          | none =>
            rcases base' with h | h
            · exact h
            · rw [hdst] at h; cases h
          | some z =>
            rw [put_at, put_at]
            by_cases htx : t' = z
            · rw [if_pos htx, if_pos htx]
            · rw [if_neg htx, if_neg htx]
              rcases base' with h | h
              · exact h
              · rw [hdst] at h; injection h with h; exact absurd h.symm htx
        · intro H hH
          obtain ⟨e1, e2, o', e3, e4, e5, e6, e7, e8⟩ := hB H hH
          refine ⟨e1, e2, o', e3, e4, e5, e6, e7.agr fun t' ht => ?_, e8⟩
          have hm' : (H.x, H.d) ∈ B.map fun F => (F.x, F.d) := List.mem_map.2 ⟨H, hH, rfl⟩
          have q1 : ρ2 t' = (ρ.put o.dst v) t' := ho2 t' fun j hj => lateB_spec (hln j hj) hm' e3 t' ht
          have q2 := lateB_spec hlt hm' e3 t' ht
          rw [hdo] at q2
          rw [q1]
          cases hdst : o.dst with
          | none => rfl
          | some z =>
            rw [put_at, if_neg]
            exact fun h => q2 (by rw [hdst, h])
        · intro H hH
          rw [hput i H.x (h2 H hH)]
          exact hAl H hH
      have offrefl : Off ops ρ ρ := fun _ _ => rfl
      cases hstep with
      | val h hn => exact hsm.val hN ho hEa (fun ρ2 hρ2 => h ρ2 fun t' ht' => (hρ2 t' ht').trans (hag' t' ht')) fun a' w' hsm' => go _ _ _ a' w' rfl hn hsm'
      | skip h hn => exact hsm.skip hN ho hEa (fun ρ2 hρ2 => h ρ2 fun t' ht' => (hρ2 t' ht').trans (hag' t' ht')) fun a' w' hsm' => go _ _ _ a' w' rfl hn hsm'
      | call h hn =>
        refine hsm.call (R := fun v aw' => ∃ ρ2, OffL ops nh (ρ.put o.dst v) ρ2 ∧ FFl P ops (q ++ nh) ρ2 aw' ∧ LinP two P ops post awS Kn Kp r B ρ2 ds aw') hN ho hEa (fun ρ2 hρ2 => h ρ2 fun t' ht' => (hρ2 t' ht').trans (hag' t' ht')) (ACalls.mono hn fun e aw' he => ?_) fun v aw' a' w' hr hsm' => go _ _ _ a' w' rfl hr hsm'
        cases e with
        | returned v => exact he
        | panicked ch => exact (he ρ offrefl).elim
      | panic h hn => exact (hn ρ offrefl).elim
end
end Go.Am
set_option linter.unusedSimpArgs false
set_option linter.unusedVariables false
set_option linter.unusedSectionVars false
namespace Go.Am
open Go Go.RowKit
variable [SymE]
def quietP (p : List Nat) (pl : List Pe) (post : Tl) : List Nat := p ++ (pl.flatMap (fun e => e.q ++ e.nh) ++ post.flatMap fun e => e.2.1 ++ e.2.2)
def linPOk (two : Bool) (ops : Array Oper) (p : List Nat) (pl : List Pe) (post : Tl) : Bool :=
  ((quietP p pl post).all fun i => decide (i < ops.size) && (dstOf ops i).isSome && ((quietP p pl post).all fun j => i == j || dstOf ops i != dstOf ops j) && (pl.flatMap Pe.own ++ post.map (·.1)).all fun e => dstOf ops i != dstOf ops e && i != e) &&
  ((pl.flatMap Pe.own ++ post.map (·.1)).all fun e => decide (e < ops.size)) &&
  ((List.range ops.size).all fun j => p.contains j || (pl.any fun e => e.own.contains j || e.nh.contains j) || post.any fun e => j == e.1 || e.2.2.contains j) &&
  ((List.range ops.size).all fun j => ((ops[j]?).map fun (o : Oper) => o.after.all fun e => !Region.binds .any e || decide (e.on < j)).getD true) &&
  ((List.range ops.size).all fun j => ((ops[j]?).map fun (o : Oper) => (looks ops o).all fun t => (quietP p pl post).all fun i => dstOf ops i != some t || anc ops ops.size j i).getD true) &&
  decide (pl.flatMap Pe.own ++ post.map (·.1)).Nodup && planOk two ops post p [] pl
section
variable {P : Program} {N : Nat} {ops : Array Oper} {k : List Item} {ρ : Env} {ds : List Deferred} {aw : AW} {p : List Nat} {pl : List Pe} {post : Tl} {o : Oper}
theorem ago_drawP {id : Nat} {R : ADone → Env → List Deferred → AW → Prop} {ρ1 : Env} (hm : P.follows .mixedOrders = true) (hN : dstsOk N ops = true) {two : Bool} (hok : linPOk two ops p pl post = true)
    (hoff : OffL ops p ρ ρ1) (hop : FFl P ops p ρ1 aw)
    (hk : LinP two P ops post aw (fun ρ' ds' aw' => AGo P N k ρ' ds' aw' R) (fun ch ρ' ds' aw' => R (.panic ch) ρ' ds' aw') pl [] ρ1 ds aw) :
    AGo P N (.code (.region id ops true) :: k) ρ ds aw R := by
  simp only [linPOk, Bool.and_eq_true] at hok
  obtain ⟨⟨⟨⟨⟨⟨h1, h2⟩, h3⟩, h4⟩, h5⟩, h6⟩, h7⟩ := hok
  refine ago_of_wp fun base w0 s a w hst => wp_region_any hm ?_
  simp only [List.all_eq_true, Bool.and_eq_true, bne_iff_ne, ne_eq, Bool.or_eq_true, beq_iff_eq, decide_eq_true_eq, List.mem_range, List.any_eq_true] at h1 h2 h3 h6
  have hmask : ∀ j, (Array.replicate ops.size false).getD j true = if j < ops.size then false else true := by
    intro j
    simp only [Array.getD_eq_getD_getElem?]
    by_cases hj : j < ops.size
    · simp [hj]
    · simp [hj]
  have h0 : left (Array.replicate ops.size false) = ops.size := by
    unfold left
    rw [Array.toList_replicate, List.countP_replicate]
    simp
  have hst' : St P.globals.size base w0 s ρ N ds aw a w.drew := ⟨hst.rel.drew, hst.env, hst.size, hst.dfr, hst.mrk, hst.nd⟩
  have hq1 : ∀ e ∈ pl, ∀ j, j ∈ e.q ∨ j ∈ e.nh → j ∈ quietP p pl post := fun e he j hj => List.mem_append.2 (.inr (List.mem_append.2 (.inl (List.mem_flatMap.2 ⟨e, he, List.mem_append.2 hj⟩))))
  have hq2 : ∀ e ∈ post, ∀ j, j ∈ e.2.1 ∨ j ∈ e.2.2 → j ∈ quietP p pl post := fun e he j hj => List.mem_append.2 (.inr (List.mem_append.2 (.inr (List.mem_flatMap.2 ⟨e, he, List.mem_append.2 hj⟩))))
  have ho1 : ∀ e ∈ pl, ∀ j ∈ e.own, j ∈ pl.flatMap Pe.own ++ post.map (·.1) := fun e he j hj => List.mem_append.2 (.inl (List.mem_flatMap.2 ⟨e, he, hj⟩))
  have ho2 : ∀ e ∈ post, e.1 ∈ pl.flatMap Pe.own ++ post.map (·.1) := fun e he => List.mem_append.2 (.inr (List.mem_map.2 ⟨e, he, rfl⟩))
  have hqs : ∀ i ∈ quietP p pl post, i < ops.size := fun i hi => (h1 i hi).1.1.1
  refine lin_plan (hs := quietP p pl post) (wS := w.drew) (awS := aw) hN ?_ h4 h5 ?_ hst'.rel ?_ (ops.size + pl.length) ops.size pl rfl _ ρ ρ1 ds aw p [] [] a w.drew (by simp) h0 ?_ ?_ ?_ h6 ?_ (fun i hi => List.mem_append.2 (.inl hi)) ?_ (fun F hF => by cases hF) (fun F hF => by cases hF) h7 (fun c hc => by cases hc) (fun F hF => by cases hF) (fun c hc => by cases hc) hop hk
    ⟨⟨s, Inj.le_refl s, ?_, fun p hp => by cases hp⟩, Nat.le_refl _, (fun p hp => by cases hp), List.nodup_nil⟩
  · intro i hi
    obtain ⟨⟨⟨b1, b2⟩, b3⟩, b4⟩ := h1 i hi
    obtain ⟨d, hd⟩ := Option.isSome_iff_exists.1 b2
    exact ⟨b1, d, hd, fun j hj hjd => ((b3 j hj).resolve_right (fun h => h (hd.trans hjd.symm))).symm⟩
  · intro e he
    exact ⟨h2 e.1 (ho2 e he), fun i hi => (h1 i hi).2 e.1 (ho2 e he), fun j hj => hq2 e he j (.inl hj), fun j hj => hq2 e he j (.inr hj)⟩
  · exact (List.nodup_append.1 h6).2.1
  · intro j hj _
    rcases h3 j hj with (h | ⟨e, he, h⟩) | ⟨e, he, h⟩
    · exact .inl (by simpa using h)
    · refine .inr (.inr (.inl ⟨e, he, ?_⟩))
      rcases h with h | h
      · exact .inl (by simpa using h)
      · exact .inr (by simpa using h)
    · refine .inr (.inr (.inr ⟨e, he, ?_⟩))
      rcases h with h | h
      · exact .inl h
      · exact .inr (by simpa using h)
  · intro e he
    refine ⟨fun j hj => ?_, fun j hj => hq1 e he j (.inl hj), fun j hj => ?_⟩
    · have hjs := h2 j (ho1 e he j hj)
      exact ⟨hjs, by rw [hmask, if_pos hjs], fun i hi => (h1 i hi).2 j (ho1 e he j hj), fun F hF => by cases hF⟩
    · have hm' := hq1 e he j (.inr hj)
      exact ⟨hm', by rw [hmask, if_pos (hqs j hm')]⟩
  · intro e he
    refine ⟨by rw [hmask, if_pos (h2 e.1 (ho2 e he))], (fun F hF => by cases hF), fun j hj => ?_⟩
    rw [hmask, if_pos (hqs j (hq2 e he j (.inr hj)))]
  · intro j hj hjs
    unfold listedOf at hj
    rw [hmask, if_pos hjs] at hj; cases hj
  · intro t ht
    refine (hoff t fun j hj => ht j hj ?_).symm
    rw [hmask, if_pos (hqs j (List.mem_append.2 (.inl hj)))]
  · have e : hide (ApV.ds []) ρ = ρ := by funext t; simp [hide, ApV.ds]
    rw [e]; exact hst'
theorem agr_eval {ρ' : Env} (hag : Agr ops o ρ ρ') {x : Operand} (hx : x ∈ o.op.operands.toList) : ρ'.eval x = ρ.eval x := by
  cases x with
  | tmp t =>
    refine hag t ?_
    unfold looks
    refine List.mem_append.2 (.inl (List.mem_filterMap.2 ⟨_, hx, rfl⟩))
  | const v => rfl
  | global g => rfl
  | func f => rfl
theorem makesV_bs {i : Nat} {d : Tmp} {t el : TypeId} {size n : Nat} {ps : Array (Nat × Operand)} {vs : List Value} {zz : Value} {zl r : List Value} (hop : o.op = .buildSlice t n ps) (hok : (ps.toList.all fun p => okOpd P.globals.size p.2) = true)
    (hu : P.underlying t = some (.slice el)) (hsz : (P.info? el).map (·.size) = some size) (hz : (P.info? el).bind (·.zero) = some zz) (hp : plains zz.cells.toList = true) (hzl : zz.cells = zl.toArray)
    (hn : Nat.ble (n * size) (2 ^ 24) = true) (h0 : Nat.blt 0 (n * size) = true) (hzs : zl.length = size) (hq : ps.toList.map (fun p => (p.1, ρ.eval p.2)) = enumV 0 vs) (hr : FillCells size vs r) (hl : vs.length = n) :
    MakesV P ops o ρ ⟨i, d, r, el, size, fun b => .slice (some ⟨b, 0, none⟩) n n⟩ := by
  have hs : zz.cells.size = size := by rw [hzl]; simpa using hzs
  have h0' : 0 < n * size := by simpa using h0
  have hn' : n * size ≤ 2 ^ 24 := Nat.le_of_ble_eq_true hn
  have hs0 : 0 < size := Nat.pos_of_ne_zero fun h => by subst h; simp at h0'
  have hr0 : Instr.fill (fun i => some (i * size, size)) ((Array.range (n * size)).map (zz.cells[· % size]!)) (ps.toList.map fun p => (p.1, ρ.eval p.2)) = some r.toArray := by
    rw [range_zeros hs hs0, hzl, hq]
    have := fill_cells hr [] (zeros zl n) 0 (by simp) (by rw [zeros_length, hzs, hl])
    simpa using this
  refine ⟨fun ρ' hag s f w hf => ?_, fun s b e he h0 => ?_⟩
  · have hzr : VRs s ((Array.range (n * size)).map (zz.cells[· % size]!)).toList ((Array.range (n * size)).map (zz.cells[· % size]!)).toList := by
      rw [range_zeros hs hs0]
      exact VRs.ofPlains (zeros_plain hp n)
    have he : ps.toList.map (fun p => (p.1, ρ'.eval p.2)) = ps.toList.map fun p => (p.1, ρ.eval p.2) := List.map_congr_left fun p hp => by
      rw [agr_eval hag (by rw [hop]; simp only [Op.operands, Array.toList_map]; exact List.mem_map.2 ⟨p, hp, rfl⟩)]
    obtain ⟨r', h1, h2⟩ := fill_rel (evalps (ρ := ρ') hf ps.toList hok) hzr (by rw [he]; exact hr0)
    refine ⟨r'.toList, h2, ?_⟩
    have e2 : ((Array.map (fun x => match x with | (i, x) => (i, f x)) ps).toList) = ps.toList.map fun p => (p.1, f p.2) := by simp
    simp only [execOp, hop, Instr.buildSlice, Sem.run_bind, run_underlying hu, run_sizeOf' hsz, Result.andThen_ok]
    rw [if_neg (by omega), if_neg (by omega)]
    simp only [Sem.run_pure, Result.andThen_ok, Sem.run_bind, run_zeroValue' hz, hs, e2, h1, run_newRow]
  · refine .slice (Nat.le_refl _) (fun _ => rfl) fun _ => ⟨e, he, by cases e; simp_all, fun h => ?_⟩
    exfalso
    have : n ≤ 2 ^ 24 := Nat.le_trans (Nat.le_mul_of_pos_right n hs0) hn'
    unfold UNK at h; omega
end
end Go.Am
set_option linter.unusedSimpArgs false
set_option linter.unusedVariables false
set_option linter.unusedSectionVars false
namespace Go.Ri
open Go Go.Am Go.RowKit
variable [SymE] [FT] [FTok]
noncomputable def planC : Tl → Option (List Pe × Tl) := List.rec (motive := fun _ => Option (List Pe × Tl)) none
  (fun e r ih => bif Nat.beq e.1 12288 then some ([], r) else (match ih with
    | none => none
    | some (pl, post) => bif Nat.blt e.1 4096 then some (.loud e.1 e.2.1 e.2.2 :: pl, post) else
      bif Nat.blt e.1 8192 then (match e.2.1 with
        | [d] => some (.birth (Nat.sub e.1 4096) d :: pl, post)
        | _ => none) else some (.meet (Nat.sub e.1 8192) e.2.1 e.2.2 :: pl, post)))
noncomputable def planOf : Tl → Option (Bool × List Pe × Tl) := List.rec (motive := fun _ => Option (Bool × List Pe × Tl)) none (fun e r _ => bif Nat.blt e.1 16384 then none else (match planC r with
  | none => none
  | some (pl, post) => some (Nat.beq e.1 16385, pl, post)))
noncomputable def floOfV (P : Program) (ρ : Env) (o : Oper) (i : Nat) (d : Tmp) : Option Flo := match o.op with
  | .buildSlice t n ps => (match okps P.globals.size ρ ps.toList with
    | none => none
    | some qs => (match P.underlying t with
      | some (.slice el) => (match (P.info? el).map (·.size) with
        | none => none
        | some size => (match (P.info? el).bind (·.zero) with
          | none => none
          | some z => bif plains (cellsL z) && (Nat.ble (n * size) 16777216 && (Nat.blt 0 (n * size) && (Nat.beq (cellsL z).length size && Nat.beq qs.length n))) then (match inOrd size qs 0 with
            | none => none
            | some r => some ⟨i, d, r, el, size, fun b => .slice (some ⟨b, 0, none⟩) n n⟩) else none))
      | _ => none))
  | _ => floOf P ρ o i d
theorem floOfV_xd {P : Program} {ρ : Env} {o : Oper} {i : Nat} {d : Tmp} {F : Flo} (h : floOfV P ρ o i d = some F) : F.x = i ∧ F.d = d := by
  unfold floOfV at h
  split at h
  · (repeat' split at h) <;> first | cases h | (rw [cond_some] at h; obtain ⟨_, h⟩ := h; first | (simp only [Option.some.injEq] at h; subst h; exact ⟨rfl, rfl⟩) | cases h)
  · exact floOf_xd h
theorem floOfV_spec {P : Program} {ops : Array Oper} {ρ : Env} {o : Oper} {i : Nat} {d : Tmp} {F : Flo} (h : floOfV P ρ o i d = some F) : MakesV P ops o ρ F := by
  unfold floOfV at h
  split at h
  · rename_i t n ps hop
    split at h
    · cases h
    rename_i qs hq
    obtain ⟨q1, q2⟩ := okps_spec hq
    split at h
    · rename_i el hu
      split at h
      · cases h
      rename_i size hs
      split at h
      · cases h
      rename_i zz hz
      rw [cond_some] at h
      obtain ⟨hp, h⟩ := h
      simp only [Bool.and_eq_true] at hp
      obtain ⟨p1, p2, p3, p4, p5⟩ := hp
      split at h
      · cases h
      rename_i r hr
      simp only [Option.some.injEq] at h
      subst h
      obtain ⟨a1, a2⟩ := inOrd_spec hr
      exact makesV_bs hop q1 hu hs hz (zl := cellsL zz) (by rw [← cellsL_eq]; exact p1) (by rw [cellsL_eq]) p2 p3 (Nat.eq_of_beq_eq_true p4) (q2.trans a1) a2 (by
        rw [List.length_map]; exact Nat.eq_of_beq_eq_true p5)
    · cases h
  · exact (floOf_spec h).toV
noncomputable def findF (x : Nat) : List Flo → Option Flo := List.rec (motive := fun _ => Option Flo) none (fun F _ ih => bif Nat.beq F.x x then some F else ih)
theorem findF_spec {x : Nat} : ∀ {B : List Flo} {F : Flo}, findF x B = some F → F ∈ B ∧ F.x = x
  | [], F, h => by cases h
  | H :: B, F, h => by
    have h : (bif Nat.beq H.x x then some H else findF x B) = some F := h
    cases hb : Nat.beq H.x x with
    | true =>
      rw [hb] at h
      simp only [cond_true, Option.some.injEq] at h
      subst h
      exact ⟨List.mem_cons_self .., Nat.eq_of_beq_eq_true hb⟩
    | false =>
      rw [hb] at h
      obtain ⟨h1, h2⟩ := findF_spec (B := B) h
      exact ⟨List.mem_cons_of_mem _ h1, h2⟩
theorem set_comm {w : AW} {b c i j : Nat} {v u : Value} (h : b ≠ c) : (w.set b i v).set c j u = (w.set c j u).set b i v := by
  have hc : ¬ c = b := fun e => h e.symm
  simp only [AW.set, if_neg h, if_neg hc, AW.mk.injEq, and_true]
  funext x
  by_cases h1 : x = b
  · subst h1
    simp [h]
  · by_cases h2 : x = c
    · subst h2
      simp [h1]
    · simp [h1, h2]
theorem set_setN {b c i : Nat} {v : Value} (h : b ≠ c) : ∀ {l : List Value} {j : Nat} {w : AW}, (w.set b i v).setN c j l = (w.setN c j l).set b i v
  | [], _, _ => rfl
  | u :: l, j, w => by
    simp only [AW.setN]
    rw [set_comm h, set_setN h]
theorem setN_comm {b c : Nat} (h : b ≠ c) {l' : List Value} {j : Nat} : ∀ {l : List Value} {i : Nat} {w : AW}, (w.setN b i l).setN c j l' = (w.setN c j l').setN b i l
  | [], _, _ => rfl
  | v :: l, i, w => by
    simp only [AW.setN]
    rw [setN_comm h, set_setN h]
theorem eStore_abs {P : Program} {ρ : Env} {M M' : Mem} {t : TypeId} {x y : Operand} {v : Value} {b i : Nat} {q : Option Bool} (h : eStore P ρ M t x y = some (v, M')) : ∃ b i u, okv P.globals.size ρ x = some (.pointer (some ⟨b, i, none⟩)) ∧ okv P.globals.size ρ y = some u ∧ v = undef ∧ M'.abs = M.abs.setN b i (cellsL u) := by
  unfold eStore at h
  split at h
  · rename_i b i u n hx hy hn
    rw [cond_some] at h
    obtain ⟨hl, h⟩ := h
    split at h
    · cases h
    · rename_i M'' hM
      simp only [Option.some.injEq, Prod.mk.injEq] at h
      obtain ⟨rfl, rfl⟩ := h
      obtain ⟨e1, e2, e3⟩ := M.setN_spec hM
      exact ⟨b, i, u, hx, hy, rfl, e1⟩
  · cases h
noncomputable def twoR (P : Program) (ops : Array Oper) (post : Tl) (ρ : T Value) (ds : List Deferred) (M : Mem) : OpsR := match post with
  | [(t1, q1, []), (t2, q2, [])] => (match ops[t1]? with
    | none => .bad
    | some o1 => (match ops[t2]? with
      | none => .bad
      | some o2 => (match o1.dst, o1.guard, o1.op with
        | none, none, .store a x y => (match o2.dst, o2.guard, o2.op with
          | none, none, .store b u v => (match okv P.globals.size (slot ρ) x with
            | some (.pointer (some ⟨b1, _, none⟩)) => (match okv P.globals.size (slot ρ) u with
              | some (.pointer (some ⟨b2, _, none⟩)) => bif Nat.beq b1 b2 then .bad else (match eStore P (slot ρ) M a x y with
                | none => .bad
                | some (_, M1) => (match eStore P (slot ρ) M1 b u v with
                  | none => .bad
                  | some (_, M12) => (match eStore P (slot ρ) M b u v with
                    | none => .bad
                    | some (_, M2) => (match eStore P (slot ρ) M2 a x y with
                      | none => .bad
                      | some (_, M21) => bif again P ops (slot ρ) M1 q1 && again P ops (slot ρ) M2 q2 then doM M12 (fun M12 => .norm ρ ds M12) else .bad))))
              | _ => .bad)
            | _ => .bad)
          | _, _, _ => .bad)
        | _, _, _ => .bad)))
  | _ => .bad
theorem store_step {P : Program} {ops : Array Oper} {Kp : List PanicEntry → Env → List Deferred → AW → Prop} {ρ : Env} {ds : List Deferred} {M M' : Mem} {o : Oper} {t : TypeId} {x y : Operand} {z : Value} {nx : Env → List Deferred → AW → Prop} (hd : o.dst = none) (hg : o.guard = none) (hop : o.op = .store t x y)
    (h : eStore P ρ M t x y = some (z, M')) (hn : nx ρ ds M'.abs) : TStep P ops o ρ ds M.abs nx Kp := by
  obtain ⟨_, _, _, _, _, rfl, _⟩ := eStore_abs (b := 0) (i := 0) (q := none) h
  refine .val (v := undef) (aw' := M'.abs) (fun ρ' hag => ⟨?_, eOp_spec ?_⟩) (by rw [hd]; exact hn)
  · unfold wants; rw [hg]
  · rw [eOp_congr (agr_x hag), hop]; exact h
theorem twoR_spec {P : Program} {ops : Array Oper} {Kn : Env → List Deferred → AW → Prop} {Kp : List PanicEntry → Env → List Deferred → AW → Prop} {post : Tl} {ρ : T Value} {ds : List Deferred} {M : Mem} (h : (twoR P ops post ρ ds M).holdsX ops Kn Kp) : LinW P ops Kn Kp post (slot ρ) ds M.abs := by
  unfold twoR at h
  split at h
  case h_2 => exact h.elim
  rename_i t1 q1 t2 q2
  split at h
  · exact h.elim
  rename_i o1 ho1
  split at h
  · exact h.elim
  rename_i o2 ho2
  split at h
  case h_2 => exact h.elim
  rename_i a x y hd1 hg1 hp1
  split at h
  case h_2 => exact h.elim
  rename_i b u v hd2 hg2 hp2
  split at h
  case h_2 => exact h.elim
  rename_i b1 i1 hx
  split at h
  case h_2 => exact h.elim
  rename_i b2 i2 hu
  cases hbb : Nat.beq b1 b2 with
  | true => rw [hbb] at h; exact h.elim
  | false =>
  rw [hbb] at h
  simp only [cond_false] at h
  split at h
  · exact h.elim
  rename_i z1 M1 h1
  split at h
  · exact h.elim
  rename_i z12 M12 h12
  split at h
  · exact h.elim
  rename_i z2 M2 h2
  split at h
  · exact h.elim
  rename_i z21 M21 h21
  cases hag : again P ops (slot ρ) M1 q1 && again P ops (slot ρ) M2 q2 with
  | false => rw [hag] at h; exact h.elim
  | true =>
  rw [hag] at h
  simp only [cond_true, doM_eq] at h
  rw [Bool.and_eq_true] at hag
  have hne : b1 ≠ b2 := fun e => by subst e; simp at hbb
  have e1 := eStore_abs (b := 0) (i := 0) (q := none) h1
  have e12 := eStore_abs (b := 0) (i := 0) (q := none) h12
  have e2 := eStore_abs (b := 0) (i := 0) (q := none) h2
  have e21 := eStore_abs (b := 0) (i := 0) (q := none) h21
  obtain ⟨c1, j1, u1, k1, k2, _, k3⟩ := e1
  obtain ⟨c2, j2, u2, m1, m2, _, m3⟩ := e12
  obtain ⟨c3, j3, u3, n1, n2, _, n3⟩ := e2
  obtain ⟨c4, j4, u4, r1, r2, _, r3⟩ := e21
  rw [hx] at k1 r1
  rw [hu] at m1 n1
  simp only [Option.some.injEq, Value.pointer.injEq, Addr.mk.injEq, and_true] at k1 r1 m1 n1
  rw [k2] at r2
  rw [m2] at n2
  simp only [Option.some.injEq] at r2 n2
  obtain ⟨rfl, rfl⟩ := k1
  obtain ⟨rfl, rfl⟩ := r1
  obtain ⟨rfl, rfl⟩ := m1
  obtain ⟨rfl, rfl⟩ := n1
  subst r2
  subst n2
  have heq : M12.abs = M21.abs := by rw [m3, k3, r3, n3, setN_comm hne]
  have nil : FFl P ops ([] : List Nat) (slot ρ) M12.abs := fun i hi => by cases hi
  have nil' : FFl P ops ([] : List Nat) (slot ρ) M21.abs := fun i hi => by cases hi
  refine ⟨t1, q1, t2, q2, rfl, ⟨o1, ho1, store_step hd1 hg1 hp1 h1 ⟨slot ρ, (fun _ _ => rfl), by rw [List.append_nil]; exact again_spec hag.1, o2, ho2, store_step hd2 hg2 hp2 h12 ⟨slot ρ, (fun _ _ => rfl), nil, h⟩⟩⟩,
    ⟨o2, ho2, store_step hd2 hg2 hp2 h2 ⟨slot ρ, (fun _ _ => rfl), by rw [List.append_nil]; exact again_spec hag.2, o1, ho1, store_step hd1 hg1 hp1 h21 ⟨slot ρ, (fun _ _ => rfl), nil', ?_⟩⟩⟩⟩
  have h : Kn (slot ρ) ds M12.abs := h
  rw [heq] at h
  exact h
noncomputable def planR (two : Bool) (P : Program) (X : Exts) (C : Caller) (ops : Array Oper) (post : Tl) (M0 : Mem) (pl : List Pe) : List Flo → T Value → List Deferred → Mem → OpsR := List.rec (motive := fun _ => List Flo → T Value → List Deferred → Mem → OpsR)
  (fun B ρ ds M => match B with
    | [] => bif two then twoR P ops post ρ ds M else tailR P X C ops post ρ ds M
    | _ => .bad)
  (fun e _ ih B ρ ds M => match e with
    | .loud t q nh => (match tailR P X C ops [(t, q, nh)] ρ ds M with
      | .norm ρ1 ds1 M1 => ih B ρ1 ds1 M1
      | _ => .bad)
    | .birth x d => (match ops[x]? with
      | none => .bad
      | some o => (match floOfV P (slot ρ) o x d with
        | none => .bad
        | some F => ih (F :: B) ρ ds M))
    | .meet x q nh => (match findF x B with
      | none => .bad
      | some F => bif roOk M0 M then doT (putS ρ (some F.d) (F.ref M.next)) (fun ρ => doM (M.alloc F.cells F.elem F.esz) fun M1 => (match heads P ops M1 nh ρ with
        | none => .bad
        | some ρ2 => bif again P ops (slot ρ2) M1 (q ++ nh) then ih (B.filter fun H => H.x != x) ρ2 ds M1 else .bad)) else .bad)) pl
noncomputable def drawP (two : Bool) (P : Program) (X : Exts) (C : Caller) (ops : Array Oper) (hs : List Nat) (pl : List Pe) (post : Tl) (ρ : T Value) (ds : List Deferred) (M : Mem) : OpsR := match heads P ops M hs ρ with
  | none => .bad
  | some ρ => bif again P ops (slot ρ) M hs then planR two P X C ops post M pl [] ρ ds M else .bad
section
variable {P : Program} {X : Exts} {C : Caller} {N : Nat} {ops : Array Oper} {Kn : Env → List Deferred → AW → Prop} {Kp : List PanicEntry → Env → List Deferred → AW → Prop}
theorem planR_spec {two : Bool} (hX : ExtOk P X) (hC : CS P C) {post : Tl} {M0 : Mem} : ∀ {pl : List Pe} {B : List Flo} {ρ : T Value} {ds : List Deferred} {M : Mem}, (planR two P X C ops post M0 pl B ρ ds M).holdsX ops Kn Kp → LinP two P ops post M0.abs Kn Kp pl B (slot ρ) ds M.abs
  | [], B, ρ, ds, M, h => by
    cases B with
    | nil =>
      cases two with
      | true => exact ⟨rfl, twoR_spec h⟩
      | false => exact ⟨rfl, tail_spec hX hC h⟩
    | cons F B => exact h.elim
  | .loud t q nh :: r, B, ρ, ds, M, h => by
    have h : OpsR.holdsX ops Kn Kp (match tailR P X C ops [(t, q, nh)] ρ ds M with
      | .norm ρ1 ds1 M1 => planR two P X C ops post M0 r B ρ1 ds1 M1
      | _ => .bad) := h
    split at h
    · rename_i ρ1 ds1 M1 ht
      have hl : LinT P ops (fun ρ' ds' aw' => ρ' = slot ρ1 ∧ ds' = ds1 ∧ aw' = M1.abs) (fun _ _ _ _ => False) [(t, q, nh)] (slot ρ) ds M.abs := tail_spec hX hC (by rw [ht]; exact ⟨rfl, rfl, rfl⟩)
      have H := planR_spec hX hC h
      obtain ⟨o, ho, hs⟩ := hl
      refine ⟨o, ho, ?_⟩
      cases hs with
      | val hw hn =>
        obtain ⟨ρ2, k1, k2, rfl, rfl, rfl⟩ := hn
        exact .val hw ⟨_, k1, k2, H⟩
      | skip hw hn =>
        obtain ⟨ρ2, k1, k2, rfl, rfl, h3⟩ := hn
        rw [h3] at k2 ⊢
        exact .skip hw ⟨_, k1, k2, H⟩
      | call hw hn =>
        refine .call hw (ACalls.mono hn fun e aw' he => ?_)
        cases e with
        | returned v =>
          obtain ⟨ρ2, k1, k2, rfl, rfl, rfl⟩ := he
          exact ⟨_, k1, k2, H⟩
        | panicked ch => exact he
      | panic hw hn => exact .panic hw hn
    · exact h.elim
  | .birth x d :: r, B, ρ, ds, M, h => by
    have h : OpsR.holdsX ops Kn Kp (match ops[x]? with
      | none => .bad
      | some o => (match floOfV P (slot ρ) o x d with
        | none => .bad
        | some F => planR two P X C ops post M0 r (F :: B) ρ ds M)) := h
    split at h
    · exact h.elim
    rename_i o ho
    split at h
    · exact h.elim
    rename_i F hF
    obtain ⟨x1, x2⟩ := floOfV_xd hF
    exact ⟨o, F, ho, x1, x2, floOfV_spec hF, planR_spec hX hC h⟩
  | .meet x q nh :: r, B, ρ, ds, M, h => by
    have h : OpsR.holdsX ops Kn Kp (match findF x B with
      | none => .bad
      | some F => bif roOk M0 M then doT (putS ρ (some F.d) (F.ref M.next)) (fun ρ => doM (M.alloc F.cells F.elem F.esz) fun M1 => (match heads P ops M1 nh ρ with
        | none => .bad
        | some ρ2 => bif again P ops (slot ρ2) M1 (q ++ nh) then planR two P X C ops post M0 r (B.filter fun H => H.x != x) ρ2 ds M1 else .bad)) else .bad) := h
    split at h
    · exact h.elim
    rename_i F hF
    obtain ⟨hFB, hFx⟩ := findF_spec hF
    cases hro : roOk M0 M with
    | false => rw [hro] at h; exact h.elim
    | true =>
    rw [hro] at h
    simp only [cond_true, doT_eq, doM_eq] at h
    split at h
    · exact h.elim
    rename_i ρ2 hh
    cases hb : again P ops (slot ρ2) (M.alloc F.cells F.elem F.esz) (q ++ nh) with
    | false => rw [hb] at h; exact h.elim
    | true =>
    rw [hb] at h
    simp only [cond_true] at h
    have ha : (M.alloc F.cells F.elem F.esz).abs = M.abs.alloc F.cells F.elem F.esz := Mem.alloc_spec ..
    have k1 := heads_spec hh
    have k2 := again_spec hb
    have k3 := planR_spec hX hC h
    rw [ha] at k2 k3
    rw [slot_put] at k1
    exact ⟨F, hFB, hFx, roOk_spec hro, slot ρ2, k1, k2, k3⟩
theorem drawP_spec (hX : ExtOk P X) (hC : CS P C) (hm : P.follows .mixedOrders = true) (hN : dstsOk N ops = true) {hs : List Nat} {pl : List Pe} {post : Tl} {two : Bool} (hok : linPOk two ops hs pl post = true) {id : Nat} {k : List Item} {R : ADone → Env → List Deferred → AW → Prop} {ρ : T Value} {ds : List Deferred} {M : Mem}
    (h : (drawP two P X C ops hs pl post ρ ds M).holdsX ops (fun ρ' ds' aw' => AGo P N k ρ' ds' aw' R) (fun ch ρ' ds' aw' => R (.panic ch) ρ' ds' aw')) : AGo P N (.code (.region id ops true) :: k) (slot ρ) ds M.abs R := by
  unfold drawP at h
  split at h
  · exact h.elim
  rename_i ρ1 hh
  cases hb : again P ops (slot ρ1) M hs with
  | false => rw [hb] at h; exact h.elim
  | true =>
  rw [hb] at h
  simp only [cond_true] at h
  exact ago_drawP hm hN hok (heads_spec hh) (again_spec hb) (planR_spec hX hC h)
end
end Go.Ri
set_option linter.unusedSimpArgs false
set_option linter.unusedVariables false
set_option linter.unusedSectionVars false
namespace Go.Ri
open Go Go.Am Go.RowKit
variable [SymE]
section
variable [FT] [FTok]
noncomputable def frOf8 (l : List Item) : Option (Nat × Array Oper × List Item) := match silT 60 l with
  | .code c :: k => (match c with
    | .region id ops true => some (id, ops, k)
    | _ => none)
  | _ => none
noncomputable def frK8 (P : Program) (X : Exts) (N : Nat) (rs : List Tmp) (ops : Array Oper) (k : List Item) (hs : List Nat) (tl : Tl) : StK := match planOf tl with
  | some (two, pl, post) => bif dstsOk N ops && linPOk two ops hs pl post then ⟨fun C ρ ds M => drK rs ops k (drawP two P X C ops hs pl post ρ ds M)⟩ else ⟨fun _ _ _ _ => .bad⟩
  | none => ⟨fun _ _ _ _ => .bad⟩
noncomputable def stepP (P : Program) (X : Exts) (RB : RBs) (N : Nat) (tab tab2 : Tab) (rs : List Tmp) (todo : List Item) : StK := match frOf8 todo with
  | some (id, ops, k) => (match tab2 id with
    | some (hs, tl) => frK8 P X N rs ops k hs tl
    | none => stepR P X RB N tab rs todo)
  | none => stepR P X RB N tab rs todo
noncomputable def step8 (P : Program) (X : Exts) (C : Caller) (RB : RBs) (N : Nat) (tab tab2 : Tab) (rs : List Tmp) (todo : List Item) (ρ : T Value) (ds : List Deferred) (M : Mem) : SR := Cx.rec (motive := fun _ => SR) (fun f => f C ρ ds M) (stepP P X RB N tab tab2 rs todo)
theorem drK_holds8 {P : Program} {N : Nat} {rs : List Tmp} {ops : Array Oper} {k : List Item} {x : OpsR} {R : ADone → Env → List Deferred → AW → Prop} (h : (drK rs ops k x).holds P N rs R) :
    x.holdsX ops (fun ρ' ds' aw' => AGo P N k ρ' ds' aw' R) (fun ch ρ' ds' aw' => R (.panic ch) ρ' ds' aw') := by
  unfold drK at h
  cases x with
  | norm ρ ds M => exact h
  | pan ch ρ ds M =>
    cases ho : offB rs ops with
    | false => simp only [ho, cond_false] at h; exact h.elim
    | true =>
      simp only [ho, cond_true] at h
      intro ρ' hoff
      refine h ρ' fun t ht => hoff t fun j hj => ?_
      simp only [offB, List.all_eq_true] at ho
      have hd := ho t ht
      unfold dstOf at hj
      cases hx : ops[j]? with
      | none => simp [hx] at hj
      | some o =>
        simp only [hx, Option.bind_some] at hj
        have hm : o ∈ ops.toList := by
          have := Array.mem_of_getElem? hx
          simpa using this
        have := hd o hm
        rw [hj] at this
        simp at this
  | bad => exact h.elim
theorem step8_spec {P : Program} {X : Exts} {C : Caller} {RB : RBs} {N : Nat} {tab tab2 : Tab} {rs : List Tmp} {R : ADone → Env → List Deferred → AW → Prop} (hX : ExtOk P X) (hRB : RBok P RB) (hC : CS P C) (hm : P.follows .mixedOrders = true) {todo : List Item} (hok : okL tab N todo) {ρ : T Value} {ds : List Deferred} {M : Mem} :
    ((step8 P X C RB N tab tab2 rs todo ρ ds M).holds P N rs R → AGo P N todo (slot ρ) ds M.abs R) ∧ (step8 P X C RB N tab tab2 rs todo ρ ds M).okS tab N := by
  show (((stepP P X RB N tab tab2 rs todo).f C ρ ds M).holds P N rs R → _) ∧ ((stepP P X RB N tab tab2 rs todo).f C ρ ds M).okS tab N
  unfold stepP
  have old : (((stepR P X RB N tab rs todo).f C ρ ds M).holds P N rs R → AGo P N todo (slot ρ) ds M.abs R) ∧ ((stepR P X RB N tab rs todo).f C ρ ds M).okS tab N := step3_spec (rs := rs) hX hRB hC hm hok
  split
  · rename_i id ops k hfr
    split
    · rename_i hs' tl ht
      unfold frOf8 at hfr
      have hs : AGo P N (silT 60 todo) (slot ρ) ds M.abs R → AGo P N todo (slot ρ) ds M.abs R := silT_spec 60 todo
      have hok := silT_ok 60 hok
      generalize silT 60 todo = l at hs hok hfr
      split at hfr
      · split at hfr
        · simp only [Option.some.injEq, Prod.mk.injEq] at hfr
          obtain ⟨rfl, rfl, rfl⟩ := hfr
          unfold frK8
          split
          · rename_i two pl post hcut
            cases hb : dstsOk N _ && linPOk two _ hs' pl post with
            | false => exact ⟨fun h => h.elim, True.intro⟩
            | true =>
              simp only [Bool.and_eq_true] at hb
              exact ⟨fun h => hs (drawP_spec hX hC hm hb.1 hb.2 (drK_holds8 h)), drK_ok hok.tail _⟩
          · exact ⟨fun h => h.elim, True.intro⟩
        · cases hfr
      · cases hfr
    · exact old
  · exact old
end
end Go.Ri
set_option linter.unusedSimpArgs false
set_option linter.unusedVariables false
set_option linter.unusedSectionVars false
namespace Go.Am
open Go Go.RowKit
variable [SymE]
structure Hp (aw0 : AW) (own : List Nat) (ro : List (Nat × Blk)) (aw : AW) (l : List (Nat × Blk)) : Prop where
  nd : (l.map (·.1)).Nodup
  at_ : ∀ p ∈ l, aw.m p.1 = some p.2 ∧ p.1 < aw.next
  mine : ∀ p ∈ l, p.1 ∈ own ∨ aw0.next ≤ p.1
  le : aw0.next ≤ aw.next
  keep : ∀ b, b < aw0.next → b ∉ own → aw.m b = aw0.m b
  ro_ : ∀ p ∈ ro, aw0.m p.1 = some p.2 ∧ p.1 < aw0.next ∧ p.1 ∉ own
  rok : ∀ b B, aw.m b = some B → B.rw = false → ∃ B0, aw0.m b = some B0 ∧ B0.rw = false
inductive At : List (Nat × Blk) → Nat → Blk → Prop
  | here {l : List (Nat × Blk)} {b : Nat} {B : Blk} : At ((b, B) :: l) b B
  | there {x : Nat × Blk} {l : List (Nat × Blk)} {b : Nat} {B : Blk} (h : At l b B) : At (x :: l) b B
theorem At.mem {l : List (Nat × Blk)} {b : Nat} {B : Blk} (h : At l b B) : (b, B) ∈ l := by
  induction h with
  | here => simp
  | there _ ih => exact List.mem_cons_of_mem _ ih
inductive Up : List (Nat × Blk) → Nat → Blk → Blk → List (Nat × Blk) → Prop
  | here {l : List (Nat × Blk)} {b : Nat} {B B' : Blk} : Up ((b, B) :: l) b B B' ((b, B') :: l)
  | there {x : Nat × Blk} {l l' : List (Nat × Blk)} {b : Nat} {B B' : Blk} (h : Up l b B B' l') : Up (x :: l) b B B' (x :: l')
inductive Out : List (Nat × Blk) → Nat → Blk → List (Nat × Blk) → Prop
  | here {l : List (Nat × Blk)} {b : Nat} {B : Blk} : Out ((b, B) :: l) b B l
  | there {x : Nat × Blk} {l l' : List (Nat × Blk)} {b : Nat} {B : Blk} (h : Out l b B l') : Out (x :: l) b B (x :: l')
theorem Up.at_ {l l' : List (Nat × Blk)} {b : Nat} {B B' : Blk} (h : Up l b B B' l') : At l b B := by
  induction h with
  | here => exact .here
  | there _ ih => exact .there ih
theorem Up.ids {l l' : List (Nat × Blk)} {b : Nat} {B B' : Blk} (h : Up l b B B' l') : l'.map (·.1) = l.map (·.1) := by
  induction h with
  | here => rfl
  | there _ ih => simp [ih]
theorem Up.get {l l' : List (Nat × Blk)} {b : Nat} {B B' : Blk} (h : Up l b B B' l') (hn : (l.map (·.1)).Nodup) : ∀ p ∈ l', p = (b, B') ∨ (p ∈ l ∧ p.1 ≠ b) := by
  induction h with
  | here =>
    rename_i l b B B'
    intro p hp
    simp only [List.map_cons, List.nodup_cons] at hn
    rcases List.mem_cons.1 hp with rfl | hp
    · exact .inl rfl
    · exact .inr ⟨List.mem_cons_of_mem _ hp, fun h => hn.1 (h ▸ List.mem_map.2 ⟨p, hp, rfl⟩)⟩
  | there h ih =>
    rename_i x l l' b B B'
    intro p hp
    simp only [List.map_cons, List.nodup_cons] at hn
    rcases List.mem_cons.1 hp with rfl | hp
    · exact .inr ⟨by simp, fun he => hn.1 (he ▸ List.mem_map.2 ⟨_, h.at_.mem, rfl⟩)⟩
    · rcases ih hn.2 p hp with h | ⟨h1, h2⟩
      · exact .inl h
      · exact .inr ⟨List.mem_cons_of_mem _ h1, h2⟩
theorem Out.at_ {l l' : List (Nat × Blk)} {b : Nat} {B : Blk} (h : Out l b B l') : At l b B := by
  induction h with
  | here => exact .here
  | there _ ih => exact .there ih
theorem Out.get {l l' : List (Nat × Blk)} {b : Nat} {B : Blk} (h : Out l b B l') (hn : (l.map (·.1)).Nodup) : (l'.map (·.1)).Nodup ∧ ∀ p ∈ l', p ∈ l ∧ p.1 ≠ b := by
  induction h with
  | here =>
    rename_i l b B
    simp only [List.map_cons, List.nodup_cons] at hn
    exact ⟨hn.2, fun p hp => ⟨List.mem_cons_of_mem _ hp, fun h => hn.1 (h ▸ List.mem_map.2 ⟨p, hp, rfl⟩)⟩⟩
  | there h ih =>
    rename_i x l l' b B
    simp only [List.map_cons, List.nodup_cons] at hn ⊢
    obtain ⟨i1, i2⟩ := ih hn.2
    refine ⟨⟨fun hx => hn.1 ?_, i1⟩, fun p hp => ?_⟩
    · obtain ⟨p, hp, he⟩ := List.mem_map.1 hx
      exact List.mem_map.2 ⟨p, (i2 p hp).1, he⟩
    · rcases List.mem_cons.1 hp with rfl | hp
      · exact ⟨by simp, fun he => hn.1 (he ▸ List.mem_map.2 ⟨_, h.at_.mem, rfl⟩)⟩
      · exact ⟨List.mem_cons_of_mem _ (i2 p hp).1, (i2 p hp).2⟩
inductive Put : List Value → Nat → List Value → List Value → Prop
  | nil {r : List Value} : Put r 0 [] r
  | cons {c v : Value} {r r' vs : List Value} (h : Put r 0 vs r') : Put (c :: r) 0 (v :: vs) (v :: r')
  | skip {c : Value} {r r' vs : List Value} {i : Nat} (h : Put r i vs r') : Put (c :: r) (i + 1) vs (c :: r')
section
variable {aw0 aw : AW} {own : List Nat} {ro l l' : List (Nat × Blk)} {b i n off size : Nat} {B B' : Blk} {v p : Value} {k : IntKind} {cs cs' : List Value}
theorem Hp.m (M : Hp aw0 own ro aw l) (h : At l b B) : aw.m b = some B := (M.at_ _ h.mem).1
theorem Hp.init (hn : (l.map (·.1)).Nodup) (ha : ∀ p ∈ l, aw.m p.1 = some p.2 ∧ p.1 < aw.next) (hr : ∀ p ∈ ro, aw.m p.1 = some p.2 ∧ p.1 < aw.next ∧ p.1 ∉ l.map (·.1)) : Hp aw (l.map (·.1)) ro aw l :=
  ⟨hn, ha, fun p hp => .inl (List.mem_map.2 ⟨p, hp, rfl⟩), Nat.le_refl _, fun _ _ _ => rfl, hr, fun b B h1 h2 => ⟨B, h1, h2⟩⟩
theorem get_m (h : aw.m b = some B) (hc : B.cells[i]? = some v) : aw.get b i = some v := by simp [AW.get, h, hc]
theorem setN_m : ∀ (vs : List Value) (aw : AW) (b i c : Nat), (aw.setN b i vs).m c = if c = b then (aw.m b).map fun B => { B with cells := (List.range vs.length).foldl (fun cs j => cs.set (i + j) (vs.getD j undef)) B.cells } else aw.m c := by
  intro vs
  induction vs with
  | nil => intro aw b i c; simp [AW.setN]; intro h; subst h; cases aw.m c <;> rfl
  | cons v vs ih =>
    intro aw b i c
    rw [AW.setN, ih]
    simp only [AW.set]
    split
    · rename_i h
      simp only [if_true, Option.map_map]
      congr 1
      funext B
      simp only [Function.comp, List.length_cons]
      congr 1
      rw [List.range_succ_eq_map, List.foldl_cons, List.foldl_map]
      simp only [Nat.add_zero, List.getD_cons_zero]
      congr 1
      funext cs j
      simp only [List.getD_cons_succ]
      congr 1
      omega
    · rfl
theorem setN_next (vs : List Value) : ∀ (aw : AW) (b i : Nat), (aw.setN b i vs).next = aw.next := by
  induction vs with
  | nil => intros; rfl
  | cons v vs ih => intro aw b i; rw [AW.setN, ih]; rfl
theorem Put.fold {cs vs cs' : List Value} {i : Nat} (h : Put cs i vs cs') : (List.range vs.length).foldl (fun cs j => cs.set (i + j) (vs.getD j undef)) cs = cs' := by
  induction h with
  | nil => rfl
  | cons h ih =>
    rename_i c v r r' vs
    rw [List.length_cons, List.range_succ_eq_map, List.foldl_cons, List.foldl_map]
    simp only [Nat.zero_add, List.getD_cons_zero, List.set_cons_zero]
    have key : ∀ (l : List Nat) (x : List Value), l.foldl (fun cs j => cs.set (j + 1) ((v :: vs).getD (j + 1) undef)) (v :: x) = v :: l.foldl (fun cs j => cs.set j (vs.getD j undef)) x := by
      intro l
      induction l with
      | nil => intro x; rfl
      | cons a l ihl => intro x; simp only [List.foldl_cons, List.set_cons_succ, List.getD_cons_succ]; exact ihl _
    rw [key]
    have e : (fun (cs : List Value) (j : Nat) => cs.set j (vs.getD j undef)) = fun cs j => cs.set (0 + j) (vs.getD j undef) := by funext cs j; rw [Nat.zero_add]
    rw [e, ih]
  | skip h ih =>
    rename_i c r r' vs i
    have key : ∀ (l : List Nat) (x : List Value), l.foldl (fun cs j => cs.set (i + 1 + j) (vs.getD j undef)) (c :: x) = c :: l.foldl (fun cs j => cs.set (i + j) (vs.getD j undef)) x := by
      intro l
      induction l with
      | nil => intro x; rfl
      | cons a l ihl =>
        intro x
        simp only [List.foldl_cons]
        rw [show i + 1 + a = (i + a) + 1 by omega, List.set_cons_succ]
        exact ihl _
    rw [key, ih]
theorem Put.len {cs vs cs' : List Value} {i : Nat} (h : Put cs i vs cs') : i + vs.length ≤ cs.length := by
  induction h with
  | nil => simp
  | cons _ ih => simp at ih ⊢; omega
  | skip _ ih => simp at ih ⊢; omega
theorem Hp.set (M : Hp aw0 own ro aw l) (hp : Put B.cells i cs cs') (hu : Up l b B ⟨cs', B.elem, B.esz, B.rw, B.fz⟩ l') : Hp aw0 own ro (aw.setN b i cs) l' := by
  have hb := M.m hu.at_
  have hmine := M.mine _ hu.at_.mem
  refine ⟨hu.ids ▸ M.nd, fun p hp' => ?_, fun p hp' => ?_, by rw [setN_next]; exact M.le, fun c hc hne => ?_, M.ro_, fun c C h1 h2 => ?_⟩
  · rw [setN_m, setN_next]
    rcases hu.get M.nd p hp' with rfl | ⟨h1, h2⟩
    · simp only [if_true, hb, Option.map_some, hp.fold]
      exact ⟨trivial, (M.at_ _ hu.at_.mem).2⟩
    · rw [if_neg h2]; exact M.at_ p h1
  · rcases hu.get M.nd p hp' with rfl | ⟨h1, h2⟩
    · exact hmine
    · exact M.mine p h1
  · rw [setN_m, if_neg, M.keep c hc hne]
    rintro rfl
    rcases hmine with h | h
    · exact hne h
    · exact absurd hc (by simp at h; omega)
  · rw [setN_m] at h1
    split at h1
    · rename_i e
      subst e
      rw [hb] at h1
      simp only [Option.map_some, Option.some.injEq] at h1
      subst h1
      exact M.rok _ _ hb h2
    · exact M.rok _ _ h1 h2
theorem Hp.alloc (M : Hp aw0 own ro aw l) (elem esz : Nat) : Hp aw0 own ro (aw.alloc cs elem esz) ((aw.next, ⟨cs, elem, esz, true, 0⟩) :: l) := by
  refine ⟨?_, fun p hp => ?_, fun p hp => ?_, Nat.le_succ_of_le M.le, fun c hc hne => ?_, M.ro_, fun c C h1 h2 => ?_⟩
  · simp only [List.map_cons, List.nodup_cons]
    refine ⟨fun h => ?_, M.nd⟩
    obtain ⟨p, hp, he⟩ := List.mem_map.1 h
    exact absurd (M.at_ p hp).2 (by rw [he]; exact Nat.lt_irrefl _)
  · rcases List.mem_cons.1 hp with rfl | hp
    · simp [AW.alloc]
    · obtain ⟨h1, h2⟩ := M.at_ p hp
      simp only [AW.alloc]
      rw [if_neg (by omega)]
      exact ⟨h1, by omega⟩
  · rcases List.mem_cons.1 hp with rfl | hp
    · exact .inr M.le
    · exact M.mine p hp
  · simp only [AW.alloc]
    rw [if_neg (by have := M.le; omega)]
    exact M.keep c hc hne
  · simp only [AW.alloc] at h1
    split at h1
    · simp only [Option.some.injEq] at h1
      subst h1; cases h2
    · exact M.rok _ _ h1 h2
theorem Hp.kill (M : Hp aw0 own ro aw l) (hu : Out l b B l') : Hp aw0 own ro (aw.kill b) l' := by
  obtain ⟨h1, h2⟩ := hu.get M.nd
  refine ⟨h1, fun p hp => ?_, fun p hp => M.mine p (h2 p hp).1, M.le, fun c hc hne => ?_, M.ro_, fun c C g1 g2 => ?_⟩
  · simp only [AW.kill]
    rw [if_neg (h2 p hp).2]
    exact M.at_ p (h2 p hp).1
  · simp only [AW.kill]
    rw [if_neg, M.keep c hc hne]
    rintro rfl
    rcases M.mine _ hu.at_.mem with h | h
    · exact hne h
    · exact absurd hc (by simp at h; omega)
  · simp only [AW.kill] at g1
    split at g1
    · cases g1
    · exact M.rok _ _ g1 g2
theorem Hp.drop (M : Hp aw0 own ro aw l) (hu : Out l b B l') : Hp aw0 own ro aw l' := by
  obtain ⟨h1, h2⟩ := hu.get M.nd
  exact ⟨h1, fun p hp => M.at_ p (h2 p hp).1, fun p hp => M.mine p (h2 p hp).1, M.le, M.keep, M.ro_, M.rok⟩
theorem Hp.call {aw' : AW} {l1 l2 l1' ro' : List (Nat × Blk)} (M : Hp aw0 own ro aw (l1 ++ l2)) (C : Hp aw (l1.map (·.1)) ro' aw' l1') : Hp aw0 own ro aw' (l1' ++ l2) := by
  have hnd := M.nd
  rw [List.map_append, List.nodup_append] at hnd
  refine ⟨?_, fun p hp => ?_, fun p hp => ?_, Nat.le_trans M.le C.le, fun c hc hne => ?_, M.ro_, fun b B h1 h2 => (by
    obtain ⟨B1, g1, g2⟩ := C.rok b B h1 h2
    exact M.rok b B1 g1 g2)⟩
  · rw [List.map_append, List.nodup_append]
    refine ⟨C.nd, hnd.2.1, fun x hx y hy => ?_⟩
    obtain ⟨p, hp, rfl⟩ := List.mem_map.1 hx
    obtain ⟨q, hq, rfl⟩ := List.mem_map.1 hy
    rcases C.mine p hp with h | h
    · exact hnd.2.2 _ h _ (List.mem_map.2 ⟨q, hq, rfl⟩)
    · have := (M.at_ q (List.mem_append.2 (.inr hq))).2
      omega
  · rcases List.mem_append.1 hp with hp | hp
    · exact C.at_ p hp
    · obtain ⟨h1, h2⟩ := M.at_ p (List.mem_append.2 (.inr hp))
      rw [C.keep _ h2 (fun h => hnd.2.2 _ h _ (List.mem_map.2 ⟨p, hp, rfl⟩) rfl)]
      exact ⟨h1, Nat.lt_of_lt_of_le h2 C.le⟩
  · rcases List.mem_append.1 hp with hp | hp
    · rcases C.mine p hp with h | h
      · obtain ⟨q, hq, he⟩ := List.mem_map.1 h
        have := M.mine q (List.mem_append.2 (.inl hq))
        rw [he] at this; exact this
      · exact .inr (Nat.le_trans M.le h)
    · exact M.mine p (List.mem_append.2 (.inr hp))
  · rw [C.keep c (Nat.lt_of_lt_of_le hc M.le), M.keep c hc hne]
    intro h
    obtain ⟨q, hq, he⟩ := List.mem_map.1 h
    rcases M.mine q (List.mem_append.2 (.inl hq)) with h | h
    · exact hne (he ▸ h)
    · rw [he] at h; omega
inductive In (aw : AW) (b : Nat) (B : Blk) : Prop
  | mk (h : aw.m b = some B)
inductive Cell : List Value → Nat → Value → Prop
  | here {v : Value} {r : List Value} : Cell (v :: r) 0 v
  | there {c v : Value} {r : List Value} {i : Nat} (h : Cell r i v) : Cell (c :: r) (i + 1) v
theorem Cell.get {cs : List Value} {i : Nat} {v : Value} (h : Cell cs i v) : cs[i]? = some v := by
  induction h with
  | here => rfl
  | there _ ih => simpa using ih
theorem In.get (h : In aw b B) (hc : Cell B.cells i v) : aw.get b i = some v := get_m h.1 hc.get
theorem fldA_x {K : Value → Prop} (h : K (.pointer (some ⟨b, i + off, none⟩))) : fldA (.pointer (some ⟨b, i, none⟩)) off K := ⟨b, i, _, rfl, rfl, h⟩
theorem slen_x {K : Int → Prop} {q : Option Addr} {n c : Nat} (h : K (n : Int)) : slen (.slice q n c) K := ⟨q, n, c, _, rfl, rfl, h⟩
theorem cnd_1x {q : Bool} {X Y : Prop} (hb : q = true) (h : X) : cnd q X Y := by subst hb; exact ⟨fun _ => h, (fun h' => Bool.noConfusion h')⟩
theorem cnd_0x {q : Bool} {X Y : Prop} (hb : q = false) (h : Y) : cnd q X Y := by subst hb; exact ⟨(fun h' => Bool.noConfusion h'), fun _ => h⟩
end
end Go.Am
set_option linter.unusedSimpArgs false
set_option linter.unusedVariables false
set_option linter.unusedSectionVars false
namespace Go.Am
open Go Go.RowKit
variable [SymE]
section
universe u
variable {α : Type u} {aw0 aw : AW} {own : List Nat} {ro l l' : List (Nat × Blk)} {b i n c k m off size el bytes : Nat} {B B' : Blk} {v p xv : Value} {cs os : List Value}
theorem getN_m (h : aw.m b = some B) : ∀ {n i : Nat}, i + n ≤ B.cells.length → aw.getN b i n = some ((B.cells.drop i).take n)
  | 0, i, _ => by simp [AW.getN]
  | n + 1, i, hl => by
    have hi : i < B.cells.length := by omega
    have e : aw.get b i = some B.cells[i] := by simp [AW.get, h, hi]
    simp only [AW.getN, e, getN_m h (n := n) (i := i + 1) (by omega), Option.map_some]
    rw [List.drop_eq_getElem_cons hi, List.take_succ_cons]
inductive Seg : List Value → Nat → Nat → List Value → Prop
  | nil {r : List Value} : Seg r 0 0 []
  | take {c : Value} {r s : List Value} {n : Nat} (h : Seg r 0 n s) : Seg (c :: r) 0 (n + 1) (c :: s)
  | drop {c : Value} {r s : List Value} {i n : Nat} (h : Seg r i n s) : Seg (c :: r) (i + 1) n s
theorem src_x (hi : In aw b B) (hl : i + n * size ≤ B.cells.length) (hc : (B.cells.drop i).take (n * size) = cs) : Src aw size (.slice (some ⟨b, i, none⟩) n c) n cs := by
  subst hc; exact .slice (getN_m hi.1 hl)
theorem app_nil {K : Value → AW → Prop} (M : Hp aw0 own ro aw l) (hs : Src aw size xv n cs) (h0 : 0 < n) (hb : (2 * n + 768) * bytes ≤ 2 ^ 48)
    (h : ∀ b aw', Hp aw0 own ro aw' ((b, ⟨cs, el, size, true, 0⟩) :: l) → K (.slice (some ⟨b, 0, none⟩) n UNK) aw') : app aw el size bytes (.slice none 0 0) xv K := by
  have := App.grows (el := el) (bytes := bytes) (q := none) (l := 0) (c := 0) (aw := aw) (xv := xv) (.nil) hs (by unfold UNK; omega) (by omega) (by simpa using hb)
  rw [List.nil_append, Nat.zero_add] at this
  exact ⟨_, _, this, h _ _ (M.alloc el size)⟩
theorem app_mv {K : Value → AW → Prop} (M : Hp aw0 own ro aw l) (ho : Out l b ⟨os, el, size, true, 0⟩ l') (hn : n * size ≤ os.length) (hs : Src aw size xv k cs) (h1 : cs.all one = true) (hb : (2 * (n + k) + 768) * bytes ≤ 2 ^ 48)
    (h : ∀ b aw', Hp aw0 own ro aw' ((b, ⟨os.take (n * size) ++ cs, el, size, true, 0⟩) :: l') → K (.slice (some ⟨b, 0, none⟩) (n + k) UNK) aw') : app aw el size bytes (.slice (some ⟨b, 0, none⟩) n UNK) xv K := by
  have hB := M.m ho.at_
  have hg : aw.getN b 0 (n * size) = some (os.take (n * size)) := by
    rw [getN_m hB (by simpa using hn)]; simp
  exact ⟨_, _, .moves hg hs (Nat.le_refl _) hB rfl rfl rfl rfl h1 hb, h _ _ ((M.kill ho).alloc el size)⟩
inductive SlP (el size : Nat) : Value → Nat → List Value → List (Nat × Blk) → Prop
  | nil : SlP el size (.slice none 0 0) 0 [] []
  | some {b n : Nat} {os : List Value} (h : n * size ≤ os.length) : SlP el size (.slice (some ⟨b, 0, none⟩) n UNK) n os [(b, ⟨os, el, size, true, 0⟩)]
theorem SlP.len {L : List (Nat × Blk)} (h : SlP el size v n os L) : n * size ≤ os.length := by
  cases h with
  | nil => simp
  | some h => exact h
theorem SlP.val {L : List (Nat × Blk)} (h : SlP el size v n os L) : ∃ q c, v = .slice q n c := by
  cases h with
  | nil => exact ⟨_, _, rfl⟩
  | some h => exact ⟨_, _, rfl⟩
theorem app_p {L : List (Nat × Blk)} {K : Value → AW → Prop} (hp : SlP el size v n os L) (M : Hp aw0 own ro aw (L ++ l)) (hs : Src aw size xv k cs) (h0 : 0 < k) (h1 : cs.all one = true) (hb : (2 * (n + k) + 768) * bytes ≤ 2 ^ 48)
    (h : ∀ b aw', Hp aw0 own ro aw' ((b, ⟨os.take (n * size) ++ cs, el, size, true, 0⟩) :: l) → K (.slice (some ⟨b, 0, none⟩) (n + k) UNK) aw') : app aw el size bytes v xv K := by
  cases hp with
  | nil =>
    refine app_nil M hs h0 (by rw [Nat.zero_add] at hb; exact hb) fun b aw' M => ?_
    have := h b aw' (by simpa using M)
    rwa [Nat.zero_add] at this
  | some hl => exact app_mv M .here hl hs h1 hb h
end
end Go.Am
