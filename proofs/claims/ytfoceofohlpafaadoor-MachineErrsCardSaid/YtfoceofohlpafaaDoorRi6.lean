/- The interpreter: the built-in functions; all operations. -/
import Derived.Test.YtfoceofohlpafaaDoorRi5
import Derived.Test.YtfoceofohlpafaaDoorAm19
set_option linter.unusedSimpArgs false
set_option linter.unusedVariables false
set_option linter.unusedSectionVars false
namespace Go.Ri
open Go Go.Am Go.RowKit
variable [SymE]
variable [FT] [FTok]

section
variable {P : Program} {ρ : Env} {M M' : Mem} {o : Oper} {v : Value} {xt yt t : TypeId} {x y z : Operand}

/-- a block that begins as an elder one does -/
noncomputable def Mem.grow (M : Mem) (B : RB) (keep : Nat) (cs : List Value) (el esz : Nat) : Mem := match T.ofL cs keep B.cells with
  | .leaf => M.alloc cs el esz
  | .node a b c => (match T.set (some (⟨.node a b c, keep + cs.length, el, esz, true⟩ : RB)) M.bl M.next with
    | .leaf => M
    | .node x y z => ⟨.node x y z, Nat.succ M.next⟩)
theorem ofL_leaf {cs : List Value} {k : Nat} {t : T Value} (h : T.ofL cs k t = .leaf) : cs = [] ∧ t = .leaf := by
  cases cs with
  | nil => exact ⟨rfl, h⟩
  | cons v cs =>
    exfalso
    have := T.get_ofL (v :: cs) k t k
    rw [h, if_pos ⟨Nat.le_refl _, by simp⟩] at this
    simp [T.get_leaf] at this
theorem Mem.grow_spec (M : Mem) (B : RB) {keep : Nat} (hk : keep ≤ B.len) (cs : List Value) (el esz : Nat) (hne : cs ≠ []) : (M.grow B keep cs el esz).abs = M.abs.alloc (B.abs.cells.take keep ++ cs) el esz := by
  unfold Mem.grow
  split
  · rename_i h; exact absurd (ofL_leaf h).1 hne
  · rename_i a b c h
    rw [← h]
    split
    · rename_i h2; exact absurd h2 (T.set_ne_leaf _ _ _)
    · rename_i x y z h2
      refine AW.ext' ?_ rfl
      funext k
      show Option.map RB.abs (Mem.at ⟨.node x y z, M.next + 1⟩ k) = if k = M.next then some ⟨_, el, esz, true, 0⟩ else Option.map RB.abs (M.at k)
      rw [← h2]
      unfold Mem.at
      simp only [T.get_set]
      by_cases hc : k = M.next
      · subst hc
        simp only [if_true, Option.map_some, Option.some.injEq]
        simp only [RB.abs, Blk.mk.injEq, and_true]
        apply List.ext_getElem?
        intro j
        simp only [List.getElem?_map]
        rcases Nat.lt_or_ge j (keep + cs.length) with hj | hj
        · rw [List.getElem?_range hj]
          simp only [Option.map_some, T.get_ofL]
          rcases Nat.lt_or_ge j keep with h3 | h3
          · rw [if_neg (by omega), List.getElem?_append_left (by simp; omega), List.getElem?_take_of_lt h3, List.getElem?_map, List.getElem?_range (by omega)]; rfl
          · rw [if_pos ⟨h3, hj⟩, List.getElem?_append_right (by simp; omega)]
            have : ((List.range B.len).map fun i => (B.cells.get i).getD undef).length = B.len := by simp
            rw [List.length_take, this, Nat.min_eq_left hk, List.getElem?_eq_getElem (by omega)]; rfl
        · rw [List.getElem?_eq_none (by simp; omega), List.getElem?_eq_none (by simp; omega)]; rfl
      · simp only [if_neg hc]
theorem RB.take_spec {b : Nat} {B : RB} (hB : M.at b = some B) {keep : Nat} (hk : keep ≤ B.len) : M.abs.getN b 0 keep = some (B.abs.cells.take keep) := by
  have := AW.getN_of (aw := M.abs) (b := b) (cs := B.abs.cells.take keep) (i := 0) (fun j u hj => by
    rw [Nat.zero_add, AW.get, M.abs_m hB]
    show B.abs.cells[j]? = some u
    have hlt : j < keep := by
      have := (List.getElem?_eq_some_iff.1 hj).1
      rw [List.length_take] at this; omega
    rw [List.getElem?_take_of_lt hlt] at hj
    exact hj)
  rw [List.length_take, B.abs_len, Nat.min_eq_left hk] at this
  exact this

noncomputable def eAppend (P : Program) (ρ : Env) (M : Mem) (sT xT : TypeId) (x y : Operand) : OR := match okv P.globals.size ρ x with
  | some (.slice q l c) => (match okv P.globals.size ρ y with
    | none => none
    | some xv => (match P.underlying sT with
      | some (.slice el) => (match P.underlying xT with
        | none => none
        | some dx => bif notInt dx then (match (P.info? el).map (·.size) with
          | none => none
          | some size => (match src M size xv with
            | none => none
            | some (0, cs) => some (.slice q l c, M)
            | some (Nat.succ n, cs) => (match (P.info? el).map (·.bytes) with
              | none => none
              | some bytes => (match (P.info? el).bind (·.zero) with
                | none => none
                | some z => bif Nat.beq (cellsL z).length size && (Nat.blt 0 bytes && (Nat.blt 0 size && Nat.ble ((2 * (l + Nat.succ n) + 768) * bytes) 281474976710656)) then
                  (bif Nat.blt c UNK then
                    (bif Nat.ble (l + Nat.succ n) c then (match q with
                      | some ⟨b, i, none⟩ => (match M.setN b (i + l * size) cs with
                        | none => none
                        | some M' => some (.slice (some ⟨b, i, none⟩) (l + Nat.succ n) c, M'))
                      | _ => none)
                    else (match src M size (.slice q l c) with
                      | none => none
                      | some (l', os) => bif Nat.beq l' l then some (.slice (some ⟨M.next, 0, none⟩) (l + Nat.succ n) UNK, M.alloc (os ++ cs) el size) else none))
                  else (match q with
                    | some ⟨b, 0, none⟩ => (match M.at b with
                      | none => none
                      | some B => bif B.rw && (Nat.beq B.elem el && (Nat.beq B.esz size && (cs.all one && Nat.ble (l * size) B.len))) then
                          some (.slice (some ⟨M.next, 0, none⟩) (l + Nat.succ n) UNK, (M.kill b).grow B (l * size) cs el size) else none)
                    | _ => none)) else none))))
          else none)
      | _ => none))
  | _ => none
theorem eAppend_spec {sT xT : TypeId} (hop : o.op = .call { callee := .builtin .append, args := #[x, y], argTypes := #[sT, xT] }) (h : eAppend P ρ M sT xT x y = some (v, M')) : OpV P o ρ M.abs v M'.abs := by
  unfold eAppend at h
  split at h
  · rename_i q l c hx
    obtain ⟨x1, x2⟩ := okv_spec hx
    split at h
    · cases h
    rename_i xv hy
    obtain ⟨y1, y2⟩ := okv_spec hy
    split at h
    · rename_i el hu
      split at h
      · cases h
      rename_i dx hxu
      rw [cond_some] at h
      obtain ⟨hni, h⟩ := h
      split at h
      · cases h
      rename_i size hs
      split at h
      · cases h
      · rename_i cs hsrc
        simp only [Option.some.injEq, Prod.mk.injEq] at h
        obtain ⟨rfl, rfl⟩ := h
        exact opv_append0 hop rfl x1 y1 hu hs hxu hni x2 y2 (src_spec hsrc)
      · rename_i n cs hsrc
        have hsrc := src_spec hsrc
        split at h
        · cases h
        rename_i bytes hby
        split at h
        · cases h
        rename_i zz hz
        rw [cond_some] at h
        obtain ⟨hc, h⟩ := h
        simp only [Bool.and_eq_true, Nat.beq_eq, Nat.blt_eq, Nat.ble_eq] at hc
        obtain ⟨c1, c2, c3, c4⟩ := hc
        have e : (cellsL zz).length = zz.cells.size := by rw [cellsL_eq]; simp
        rw [e] at c1
        cases hcap : Nat.blt c UNK with
        | true =>
          rw [hcap] at h
          simp only [cond_true] at h
          rw [Nat.blt_eq] at hcap
          cases hfit : Nat.ble (l + Nat.succ n) c with
          | true =>
            rw [hfit] at h
            simp only [cond_true] at h
            rw [Nat.ble_eq] at hfit
            split at h
            · rename_i b i
              split at h
              · cases h
              rename_i M'' hM
              simp only [Option.some.injEq, Prod.mk.injEq] at h
              obtain ⟨rfl, rfl⟩ := h
              obtain ⟨s1, s2, s3⟩ := M.setN_spec hM
              rw [s1]
              exact opv_appendX hop rfl x1 y1 hu hs hxu hni x2 y2 hsrc hcap hfit (Nat.succ_pos n) s3 s2
            · cases h
          | false =>
            rw [hfit] at h
            simp only [cond_false] at h
            split at h
            · cases h
            rename_i l' os hos
            rw [cond_some] at h
            obtain ⟨hl, h⟩ := h
            have hl := Nat.eq_of_beq_eq_true hl
            subst hl
            simp only [Option.some.injEq, Prod.mk.injEq] at h
            obtain ⟨rfl, rfl⟩ := h
            rw [M.alloc_spec]
            have hfit' : c < l' + Nat.succ n := by
              rcases Nat.lt_or_ge c (l' + Nat.succ n) with h | h
              · exact h
              · rw [show Nat.ble (l' + Nat.succ n) c = true from by rw [Nat.ble_eq]; exact h] at hfit; cases hfit
            exact opv_appendG hop rfl x1 y1 hu hs hby hxu hni hz c1 c2 x2 y2 (src_spec hos) ⟨q, rfl⟩ hsrc hcap hfit' c3 (Nat.le_trans c4 (by decide))
        | false =>
          rw [hcap] at h
          simp only [cond_false] at h
          split at h
          · rename_i b
            split at h
            · cases h
            rename_i B hB
            rw [cond_some] at h
            obtain ⟨hc, h⟩ := h
            simp only [Bool.and_eq_true, Nat.beq_eq, Nat.ble_eq] at hc
            obtain ⟨k1, k2, k3, k4, k5⟩ := hc
            simp only [Option.some.injEq, Prod.mk.injEq] at h
            obtain ⟨rfl, rfl⟩ := h
            have hcs : cs ≠ [] := by
              rintro rfl
              have := hsrc.length
              simp only [List.length_nil] at this
              have h0 : 0 < Nat.succ n * size := Nat.mul_pos (Nat.succ_pos n) c3
              omega
            have hg := Mem.grow_spec (M.kill b) B k5 cs el size hcs
            rw [M.kill_spec] at hg
            rw [hg]
            have hnext : (M.kill b).next = M.next := by unfold Mem.kill; rw [Mem.put_next]
            have hcu : UNK ≤ c := by
              rcases Nat.lt_or_ge c UNK with h | h
              · rw [show Nat.blt c UNK = true from by rw [Nat.blt_eq]; exact h] at hcap; cases hcap
              · exact h
            exact opv_appendU hop rfl x1 y1 hu hs hby hxu hni hz c1 c2 x2 y2 (RB.take_spec hB k5) hsrc hcu (M.abs_m hB) k1 rfl k2 k3 k4 rfl c3 (Nat.le_trans c4 (by decide))
          · cases h
    · cases h
  · cases h
noncomputable def eAppendZ (P : Program) (ρ : Env) (M : Mem) (sT xT : TypeId) (x y : Operand) : OR := match okv P.globals.size ρ x with
  | some (.slice q l c) => (match okv P.globals.size ρ y with
    | some (.int kk (.ofNat n)) => (match P.underlying sT with
      | some (.slice el) => (match P.underlying xT with
        | some (.int k) => (match (P.info? el).map (·.size) with
          | none => none
          | some size => (match (P.info? el).map (·.bytes) with
            | none => none
            | some bytes => (match (P.info? el).bind (·.zero) with
              | none => none
              | some z => (match src M size (.slice q l c) with
                | none => none
                | some (l', os) => bif Nat.beq l' l && (Nat.beq (cellsL z).length size && (plains (cellsL z) && (Nat.blt 0 bytes && (Nat.blt 0 n && (Nat.blt c UNK && (Nat.blt c (l + n) && (Nat.blt 0 size && Nat.ble ((2 * (l + n) + 768) * bytes) 281474976710656))))))) then
                    some (.slice (some ⟨M.next, 0, none⟩) (l + n) UNK, M.alloc (os ++ zeros (cellsL z) n) el size) else none))))
        | _ => none)
      | _ => none)
    | _ => none)
  | _ => none
theorem eAppendZ_spec {sT xT : TypeId} (hop : o.op = .call { callee := .builtin .append, args := #[x, y], argTypes := #[sT, xT] }) (h : eAppendZ P ρ M sT xT x y = some (v, M')) : OpV P o ρ M.abs v M'.abs := by
  unfold eAppendZ at h
  split at h
  · rename_i q l c hx
    obtain ⟨x1, x2⟩ := okv_spec hx
    split at h
    · rename_i kk n hy
      obtain ⟨y1, y2⟩ := okv_spec hy
      split at h
      · rename_i el hu
        split at h
        · rename_i k hxu
          split at h
          · cases h
          rename_i size hs
          split at h
          · cases h
          rename_i bytes hby
          split at h
          · cases h
          rename_i zz hz
          split at h
          · cases h
          rename_i l' os hos
          rw [cond_some] at h
          obtain ⟨hc, h⟩ := h
          simp only [Bool.and_eq_true, Nat.beq_eq, Nat.blt_eq, Nat.ble_eq] at hc
          obtain ⟨c0, c1, c2, c3, c4, c5, c6, c7, c8⟩ := hc
          subst c0
          have e : (cellsL zz).length = zz.cells.size := by rw [cellsL_eq]; simp
          simp only [Option.some.injEq, Prod.mk.injEq] at h
          obtain ⟨rfl, rfl⟩ := h
          rw [M.alloc_spec, cellsL_eq]
          exact opv_appendZ hop rfl x1 y1 hu hs hby hxu hz (by rw [← e]; exact c1) (by rw [← cellsL_eq]; exact c2) c3 c4 x2 y2 (src_spec hos) ⟨q, rfl⟩ c5 c6 c7 (Nat.le_trans c8 (by decide))
        · cases h
      · cases h
    · cases h
  · cases h
noncomputable def eCopy (P : Program) (ρ : Env) (M : Mem) (sT xT : TypeId) (x y : Operand) : OR := match okv P.globals.size ρ x with
  | some (.slice (some ⟨b, i, none⟩) l c) => (match okv P.globals.size ρ y with
    | none => none
    | some xv => (match P.underlying sT with
      | some (.slice el) => (match (P.info? el).map (·.size) with
        | none => none
        | some size => (match src M size xv with
          | none => none
          | some (n, cs) => (match M.setN b i (cs.take (min n l * size)) with
            | none => none
            | some M' => some (.int .i64 (.ofNat (min n l)), M'))))
      | _ => none))
  | _ => none
theorem eCopy_spec {sT xT : TypeId} (hop : o.op = .call { callee := .builtin .copy, args := #[x, y], argTypes := #[sT, xT] }) (h : eCopy P ρ M sT xT x y = some (v, M')) : OpV P o ρ M.abs v M'.abs := by
  unfold eCopy at h
  split at h
  · rename_i b i l c hx
    obtain ⟨x1, x2⟩ := okv_spec hx
    split at h
    · cases h
    rename_i xv hy
    obtain ⟨y1, y2⟩ := okv_spec hy
    split at h
    · rename_i el hu
      split at h
      · cases h
      rename_i size hs
      split at h
      · cases h
      rename_i n cs hsrc
      split at h
      · cases h
      rename_i M'' hM
      simp only [Option.some.injEq, Prod.mk.injEq] at h
      obtain ⟨rfl, rfl⟩ := h
      obtain ⟨s1, s2, s3⟩ := M.setN_spec hM
      rw [s1]
      exact opv_copy hop rfl x1 y1 hu hs x2 y2 (src_spec hsrc) rfl s3 s2
    · cases h
  · cases h
noncomputable def eLen (P : Program) (ρ : Env) (M : Mem) (at' : Array TypeId) (x : Operand) : OR := match at'[0]? with
  | none => none
  | some q => (match P.underlying q with
    | some .string => (match okv P.globals.size ρ x with
      | some (.string ⟨⟨l⟩⟩) => some (.int .i64 (.ofNat l.length), M)
      | some (.map (some i)) => (match FT.len (.map (some i)) with
        | some v => some (v, M)
        | none => none)
      | _ => none)
    | some (.slice _) => (match okv P.globals.size ρ x with
      | some (.slice _ l _) => some (.int .i64 (.ofNat l), M)
      | _ => none)
    | some (.array l _) => some (.int .i64 (.ofNat l), M)
    | _ => none)
theorem eLen_spec {at' : Array TypeId} (hop : o.op = .call { callee := .builtin .len, args := #[x], argTypes := at' }) (h : eLen P ρ M at' x = some (v, M')) : OpV P o ρ M.abs v M'.abs := by
  unfold eLen at h
  split at h
  · cases h
  rename_i q hat
  split at h
  · rename_i hu
    split at h
    · rename_i l hx
      obtain ⟨x1, x2⟩ := okv_spec hx
      simp only [Option.some.injEq, Prod.mk.injEq] at h
      obtain ⟨rfl, rfl⟩ := h
      exact opv_lenS hop hat x1 hu x2
    · rename_i i hx
      obtain ⟨x1, x2⟩ := okv_spec hx
      split at h
      · rename_i r hr
        simp only [Option.some.injEq, Prod.mk.injEq] at h
        obtain ⟨rfl, rfl⟩ := h
        refine opv_den ?_
        obtain ⟨l, h1, h2⟩ := FTok.len _ _ hr
        have e1 : Env.eval (fun t => den (ρ t)) x = .string ⟨⟨l⟩⟩ := by rw [den_eval x1, x2, h1]
        rw [h2]
        exact opv_lenS hop hat x1 hu e1
      · cases h
    · cases h
  · rename_i e hu
    split at h
    · rename_i a l c hx
      obtain ⟨x1, x2⟩ := okv_spec hx
      simp only [Option.some.injEq, Prod.mk.injEq] at h
      obtain ⟨rfl, rfl⟩ := h
      exact opv_len hop hat x1 hu x2
    · cases h
  · rename_i l e hu
    simp only [Option.some.injEq, Prod.mk.injEq] at h
    obtain ⟨rfl, rfl⟩ := h
    exact opv_lenA hop hat hu
  · cases h
theorem opv_cap {ρ : Env} {aw : AW} {q : Option Addr} {l c : Nat} {T el : TypeId} {at' : Array TypeId} (hop : o.op = .call { callee := .builtin .cap, args := #[x], argTypes := at' }) (hat : at'[0]? = some T) (hx : okOpd P.globals.size x = true)
    (hu : P.underlying T = some (.slice el)) (h1 : ρ.eval x = .slice q l c) (hc : c < UNK) : OpV P o ρ aw (.int .i64 c) aw :=
  opv_pure fun s f w hf => by
    have e1 := hf x hx; rw [h1] at e1
    have : ∃ q', f x = .slice q' l c := by
      generalize f x = u at e1
      cases e1 with
      | nilslice => exact ⟨_, rfl⟩
      | slice hl hcc h => rw [hcc hc]; exact ⟨_, rfl⟩
    obtain ⟨q', hq⟩ := this
    refine ⟨.int .i64 c, ?_, .int _ _⟩
    simp [execOp, hop, resolve, invoke, builtin, Builtin.cap_, hq, hat, run_underlying hu, goInt]
noncomputable def eCap (P : Program) (ρ : Env) (M : Mem) (at' : Array TypeId) (x : Operand) : OR := match at'[0]? with
  | none => none
  | some q => (match P.underlying q with
    | some (.slice _) => (match okv P.globals.size ρ x with
      | some (.slice _ _ c) => bif Nat.blt c UNK then some (.int .i64 (.ofNat c), M) else none
      | _ => none)
    | _ => none)
theorem eCap_spec {at' : Array TypeId} (hop : o.op = .call { callee := .builtin .cap, args := #[x], argTypes := at' }) (h : eCap P ρ M at' x = some (v, M')) : OpV P o ρ M.abs v M'.abs := by
  unfold eCap at h
  split at h
  · cases h
  rename_i q hat
  split at h
  · rename_i e hu
    split at h
    · rename_i a l c hx
      obtain ⟨x1, x2⟩ := okv_spec hx
      rw [cond_some] at h
      obtain ⟨hc, h⟩ := h
      rw [Nat.blt_eq] at hc
      simp only [Option.some.injEq, Prod.mk.injEq] at h
      obtain ⟨rfl, rfl⟩ := h
      exact opv_cap hop hat x1 hu x2 hc
    · cases h
  · cases h
noncomputable def eMM (P : Program) (ρ : Env) (M : Mem) (mx : Bool) (x y : Operand) : OR := match okv P.globals.size ρ x with
  | some (.int k m) => (match okv P.globals.size ρ y with
    | some (.int k' n) => bif decide (k = k') then some (.int k (bif mx then max m n else min m n), M) else none
    | _ => none)
  | _ => none
theorem eMM_spec {mx : Bool} {at' : Array TypeId} (hop : o.op = .call { callee := .builtin (if mx then .max else .min), args := #[x, y], argTypes := at' }) (h : eMM P ρ M mx x y = some (v, M')) : OpV P o ρ M.abs v M'.abs := by
  unfold eMM at h
  split at h
  · rename_i k m hx
    obtain ⟨x1, x2⟩ := okv_spec hx
    split at h
    · rename_i k' n hy
      obtain ⟨y1, y2⟩ := okv_spec hy
      rw [cond_some] at h
      obtain ⟨hk, h⟩ := h
      have hk := of_decide_eq_true hk
      subst hk
      simp only [Option.some.injEq, Prod.mk.injEq] at h
      obtain ⟨rfl, rfl⟩ := h
      cases mx
      · exact opv_min hop x1 y1 x2 y2
      · exact opv_max hop x1 y1 x2 y2
    · cases h
  · cases h
noncomputable def eAssert (P : Program) (ρ : Env) (M : Mem) (x : Operand) (a : TypeId) (ok : Bool) : OR := match P.underlying a with
  | none => none
  | some d => bif isIface d then none else (match okv P.globals.size ρ x with
    | some (.iface q u) => bif Nat.beq q a then some ((bif ok then .tuple ⟨[u, .bool true]⟩ else u), M) else (match ok, (P.info? a).bind (·.zero) with
      | true, some z => bif plain z then some (.tuple ⟨[z, .bool false]⟩, M) else none
      | _, _ => none)
    | some .nilIface => (match ok, (P.info? a).bind (·.zero) with
      | true, some z => bif plain z then some (.tuple ⟨[z, .bool false]⟩, M) else none
      | _, _ => none)
    | _ => none)
theorem eAssert_spec {a : TypeId} {ok : Bool} (hop : o.op = .typeAssert x xt a ok) (h : eAssert P ρ M x a ok = some (v, M')) : OpV P o ρ M.abs v M'.abs := by
  unfold eAssert at h
  split at h
  · cases h
  rename_i d hu
  cases hd : isIface d with
  | true => rw [hd] at h; cases h
  | false =>
    rw [hd] at h
    simp only [cond_false] at h
    split at h
    · rename_i q u hx
      obtain ⟨x1, x2⟩ := okv_spec hx
      cases hq : Nat.beq q a with
      | true =>
        rw [hq] at h
        have hq := Nat.eq_of_beq_eq_true hq
        subst hq
        simp only [cond_true, Option.some.injEq, Prod.mk.injEq] at h
        obtain ⟨rfl, rfl⟩ := h
        have := opv_assertYes (aw := M.abs) (ok := ok) hop x1 hu hd x2
        cases ok <;> exact this
      | false =>
        rw [hq] at h
        simp only [cond_false] at h
        split at h
        · rename_i zz hz
          rw [cond_some] at h
          obtain ⟨hp, h⟩ := h
          simp only [Option.some.injEq, Prod.mk.injEq] at h
          obtain ⟨rfl, rfl⟩ := h
          exact opv_assertNo hop x1 hu hd hz hp x2 (fun e => by rw [e, Nat.beq_refl] at hq; cases hq)
        · cases h
    · rename_i hx
      obtain ⟨x1, x2⟩ := okv_spec hx
      split at h
      · rename_i zz hz
        rw [cond_some] at h
        obtain ⟨hp, h⟩ := h
        simp only [Option.some.injEq, Prod.mk.injEq] at h
        obtain ⟨rfl, rfl⟩ := h
        exact opv_assertNil hop x1 hu hd hz hp x2
      · cases h
    · cases h

noncomputable def eUsd (P : Program) (ρ : Env) (M : Mem) (x : Operand) : OR := match okv P.globals.size ρ x with
  | some (.slice (some ⟨b, i, none⟩) l c) => bif Nat.blt 0 l then some (.pointer (some ⟨b, i, none⟩), M) else none
  | some (.slice none 0 0) => some (.pointer none, M)
  | _ => none
theorem eUsd_spec {at' : Array TypeId} (hop : o.op = .call { callee := .builtin .unsafeSliceData, args := #[x], argTypes := at' }) (h : eUsd P ρ M x = some (v, M')) : OpV P o ρ M.abs v M'.abs := by
  unfold eUsd at h
  split at h
  · rename_i b i l c hx
    obtain ⟨x1, x2⟩ := okv_spec hx
    rw [cond_some] at h
    obtain ⟨hl, h⟩ := h
    rw [Nat.blt_eq] at hl
    simp only [Option.some.injEq, Prod.mk.injEq] at h
    obtain ⟨rfl, rfl⟩ := h
    exact ov_usd hop x1 x2 (.inl ⟨_, _, _, _, rfl, hl⟩) rfl
  · rename_i hx
    obtain ⟨x1, x2⟩ := okv_spec hx
    simp only [Option.some.injEq, Prod.mk.injEq] at h
    obtain ⟨rfl, rfl⟩ := h
    exact ov_usd hop x1 x2 (.inr rfl) rfl
  · cases h
noncomputable def eUstr (P : Program) (ρ : Env) (M : Mem) (pt : TypeId) (x y : Operand) : OR := match okv P.globals.size ρ x with
  | some p => (match okv P.globals.size ρ y with
    | some (.int .i64 (.ofNat n)) => (match P.underlying pt with
      | some (.pointer E) => bif Nat.beq (P.cellsOf E) 1 then (match n with
        | 0 => (match p with
          | .pointer q => some (.string ⟨⟨[]⟩⟩, M)
          | _ => none)
        | Nat.succ m => (match p with
          | .pointer (some ⟨b, 0, none⟩) => (match M.getN b 0 (Nat.succ m) with
            | none => none
            | some cs => (match unB cs with
              | none => none
              | some l => (match M.at b with
                | none => none
                | some B => bif B.rw && (Nat.beq B.elem E && (Nat.beq l.length (Nat.succ m) && Nat.blt (Nat.succ m) 4611686018427387904)) then some (.string ⟨⟨l⟩⟩, M.kill b) else none)))
          | _ => none)) else none
      | _ => none)
    | _ => none)
  | none => none
theorem eUstr_spec {pt it : TypeId} (hop : o.op = .call { callee := .builtin .unsafeString, args := #[x, y], argTypes := #[pt, it] }) (h : eUstr P ρ M pt x y = some (v, M')) : OpV P o ρ M.abs v M'.abs := by
  unfold eUstr at h
  split at h
  · rename_i p hx
    obtain ⟨x1, x2⟩ := okv_spec hx
    split at h
    · rename_i n hy
      obtain ⟨y1, y2⟩ := okv_spec hy
      split at h
      · rename_i E hu
        rw [cond_some] at h
        obtain ⟨hE, h⟩ := h
        have hE := Nat.eq_of_beq_eq_true hE
        split at h
        · split at h
          · rename_i q
            simp only [Option.some.injEq, Prod.mk.injEq] at h
            obtain ⟨rfl, rfl⟩ := h
            exact ov_ustr hop x1 y1 hu hE x2 y2 (.inl ⟨rfl, ⟨_, rfl⟩, rfl, rfl⟩)
          · cases h
        · rename_i m
          split at h
          · rename_i b
            split at h
            · cases h
            rename_i cs hcs
            split at h
            · cases h
            rename_i l hl
            split at h
            · cases h
            rename_i B hB
            rw [cond_some] at h
            obtain ⟨hc, h⟩ := h
            simp only [Bool.and_eq_true, Nat.beq_eq, Nat.blt_eq] at hc
            obtain ⟨c1, c2, c3, c4⟩ := hc
            simp only [Option.some.injEq, Prod.mk.injEq] at h
            obtain ⟨rfl, rfl⟩ := h
            have hg := M.getN_spec hcs
            rw [unB_spec hl, ← c3] at hg
            refine ov_ustr hop x1 y1 hu hE x2 y2 (.inr ⟨l, b, B.abs, ?_, ?_, by omega, rfl, hg, M.abs_m hB, c1, c2, rfl, M.kill_spec b⟩)
            · rintro rfl; simp at c3
            · show Int.ofNat (Nat.succ m) = _
              rw [← c3]; rfl
          · cases h
      · cases h
    · cases h
  · cases h
/-- an operation that gives a value -/
noncomputable def eOp (P : Program) (ρ : Env) (M : Mem) : Op → OR
  | .move x => eMove P ρ M x
  | .assign x => eMove P ρ M x
  | .pick a b c => ePick P ρ M a b c
  | .alloc t => eAlloc P M t
  | .box t x => eBox P ρ M t x
  | .build t ps => eBuild P ρ M t ps
  | .buildSlice t n ps => eBuildS P ρ M t n ps
  | .load t x => eLoad P ρ M t x
  | .store t x y => eStore P ρ M t x y
  | .nilCheck x => eNil P ρ M x
  | .binOp op xt x y _ => eBin P ρ M op xt x y
  | .unOp op _ x => eUn P ρ M op x
  | .convert s d x => eConv P ρ M s d x
  | .makeInterface xt x => eMkI P ρ M xt x
  | .makeFunc fn a c => eMkF P ρ M fn a c
  | .makeSlice t x y => eMake P ρ M t x y
  | .slice t x l h m => eSlice P ρ M t x l h m
  | .fieldAddr t x n => eFldA P ρ M t x n
  | .field t x n => eField P ρ M t x n
  | .indexAddr t x y => eIxA P ρ M t x y
  | .index t x y => eIx P ρ M t x y
  | .typeAssert x _ a ok => eAssert P ρ M x a ok
  | .extract x i => eExtract P ρ M x i
  | .call ⟨.builtin b, ⟨xs⟩, ⟨ts⟩⟩ => (match b with
    | .len => (match xs with | [x] => eLen P ρ M ⟨ts⟩ x | _ => none)
    | .unsafeSliceData => (match xs with | [x] => eUsd P ρ M x | _ => none)
    | .unsafeString => (match xs with | [x, y] => (match ts with | [pt, _] => eUstr P ρ M pt x y | _ => none) | _ => none)
    | .cap => (match xs with | [x] => eCap P ρ M ⟨ts⟩ x | _ => none)
    | .max => (match xs with | [x, y] => eMM P ρ M true x y | _ => none)
    | .min => (match xs with | [x, y] => eMM P ρ M false x y | _ => none)
    | .append => (match xs with | [x, y] => (match ts with | [sT, xT] => (match eAppend P ρ M sT xT x y with | some r => some r | none => eAppendZ P ρ M sT xT x y) | _ => none) | _ => none)
    | .copy => (match xs with | [x, y] => (match ts with | [sT, xT] => eCopy P ρ M sT xT x y | _ => none) | _ => none)
    | _ => none)
  | _ => none
theorem eOp_spec (h : eOp P ρ M o.op = some (v, M')) : OpV P o ρ M.abs v M'.abs := by
  generalize hop : o.op = p at h
  unfold eOp at h
  split at h
  · exact eMove_spec (.inl hop) h
  · exact eMove_spec (.inr hop) h
  · exact ePick_spec hop h
  · exact eAlloc_spec hop h
  · exact eBox_spec hop h
  · exact eBuild_spec hop h
  · exact eBuildS_spec hop h
  · exact eLoad_spec hop h
  · exact eStore_spec hop h
  · exact eNil_spec hop h
  · exact eBin_spec hop h
  · exact eUn_spec hop h
  · exact eConv_spec hop h
  · exact eMkI_spec hop h
  · exact eMkF_spec hop h
  · exact eMake_spec hop h
  · exact eSlice_spec hop h
  · exact eFldA_spec hop h
  · exact eField_spec hop h
  · exact eIxA_spec hop h
  · exact eIx_spec hop h
  · exact eAssert_spec hop h
  · exact eExtract_spec hop h
  · split at h
    · split at h
      · exact eLen_spec hop h
      · cases h
    · split at h
      · exact eUsd_spec hop h
      · cases h
    · split at h
      · split at h
        · exact eUstr_spec hop h
        · cases h
      · cases h
    · split at h
      · exact eCap_spec hop h
      · cases h
    · split at h
      · exact eMM_spec (mx := true) hop h
      · cases h
    · split at h
      · exact eMM_spec (mx := false) hop h
      · cases h
    · split at h
      · split at h
        · split at h
          · rename_i r hr
            simp only [Option.some.injEq] at h
            subst h
            exact eAppend_spec hop hr
          · exact eAppendZ_spec hop h
        · cases h
      · cases h
    · split at h
      · split at h
        · exact eCopy_spec hop h
        · cases h
      · cases h
    · cases h
  · cases h
end
end Go.Ri
