/- The interpreter: structs, slices, addresses. -/
import Derived.Test.YtfoceofohlpafaaDoorRi4
import Derived.Test.YtfoceofohlpafaaDoorAm21
set_option linter.unusedSimpArgs false
set_option linter.unusedVariables false
set_option linter.unusedSectionVars false
namespace Go.Ri
open Go Go.Am Go.RowKit
variable [SymE]
variable [FT] [FTok]

section
variable {P : Program} {ρ : Env} {M M' : Mem} {o : Oper} {v : Value} {xt yt t : TypeId} {x y z : Operand}

noncomputable def okps (G : Nat) (ρ : Env) : List (Nat × Operand) → Option (List (Nat × Value)) := List.rec (motive := fun _ => Option (List (Nat × Value))) (some [])
  fun p _ ih => match okv G ρ p.2 with
    | none => none
    | some v => (match ih with
      | none => none
      | some l => some ((p.1, v) :: l))
theorem okps_spec {G : Nat} {ρ : Env} : ∀ {xs : List (Nat × Operand)} {l : List (Nat × Value)}, okps G ρ xs = some l → (xs.all fun p => okOpd G p.2) = true ∧ xs.map (fun p => (p.1, ρ.eval p.2)) = l
  | [], l, h => by
    have h : some [] = some l := h
    simp only [Option.some.injEq] at h; subst h; exact ⟨rfl, rfl⟩
  | x :: xs, l, h => by
    have h : (match okv G ρ x.2 with
      | none => none
      | some v => (match okps G ρ xs with
        | none => none
        | some l => some ((x.1, v) :: l))) = some l := h
    cases hx : okv G ρ x.2 with
    | none => rw [hx] at h; cases h
    | some v =>
      rw [hx] at h
      simp only at h
      cases hr : okps G ρ xs with
      | none => rw [hr] at h; cases h
      | some r =>
        rw [hr] at h
        simp only [Option.some.injEq] at h
        subst h
        obtain ⟨a1, a2⟩ := okv_spec hx
        obtain ⟨b1, b2⟩ := okps_spec hr
        exact ⟨by simp [a1]; simpa using b1, by simp [a2, b2]⟩
/-- places filled -/
noncomputable def fl (place : Nat → Option (Nat × Nat)) (ps : List (Nat × Value)) : List Value → Option (List Value) := List.rec (motive := fun _ => List Value → Option (List Value)) (fun cs => some cs)
  (fun p _ ih cs => match place p.1 with
    | none => none
    | some (off, n) => bif Nat.beq (cellsL p.2).length n && Nat.ble (off + n) cs.length then ih (putL cs off (cellsL p.2)) else none) ps
theorem fl_spec {place : Nat → Option (Nat × Nat)} : ∀ {ps : List (Nat × Value)} {cs r : List Value}, fl place ps cs = some r → Instr.fill place cs.toArray ps = some r.toArray
  | [], cs, r, h => by
    have h : some cs = some r := h
    simp only [Option.some.injEq] at h; exact fillN h
  | (i, v) :: ps, cs, r, h => by
    have h : (match place i with
      | none => none
      | some (off, n) => bif Nat.beq (cellsL v).length n && Nat.ble (off + n) cs.length then fl place ps (putL cs off (cellsL v)) else none) = some r := h
    split at h
    · cases h
    · rename_i off n hp
      rw [cond_some] at h
      obtain ⟨h1, h2⟩ := h
      simp only [Bool.and_eq_true] at h1
      exact fillP (xs := cellsL v) (cellsL_eq v).symm (Nat.eq_of_beq_eq_true h1.1) hp h1.2 (fl_spec h2)
noncomputable def eBuild (P : Program) (ρ : Env) (M : Mem) (t : TypeId) (ps : Array (Nat × Operand)) : OR := match okps P.globals.size ρ ps.toList with
  | none => none
  | some qs => (match (P.info? t).bind (·.zero) with
    | none => none
    | some z => bif plains (cellsL z) then (match P.underlying t with
      | some (.struct fs) => bif fs.toList.all (fun f => (P.info? f.type).isSome) then (match fl (fun i => (placesOf P fs.toList)[i]?) qs (cellsL z) with
        | none => none
        | some r => some (.agg ⟨r⟩, M)) else none
      | _ => none) else none)
theorem eBuild_spec {ps : Array (Nat × Operand)} (hop : o.op = .build t ps) (h : eBuild P ρ M t ps = some (v, M')) : OpV P o ρ M.abs v M'.abs := by
  unfold eBuild at h
  split at h
  · cases h
  rename_i qs hq
  obtain ⟨q1, q2⟩ := okps_spec hq
  split at h
  · cases h
  rename_i zz hz
  rw [cond_some] at h
  obtain ⟨hp, h⟩ := h
  split at h
  · rename_i fs hu
    rw [cond_some] at h
    obtain ⟨hfs, h⟩ := h
    split at h
    · cases h
    rename_i r hr
    simp only [Option.some.injEq, Prod.mk.injEq] at h
    obtain ⟨rfl, rfl⟩ := h
    refine opv_build hop q1 hz (by rw [← cellsL_eq]; exact hp) hu hfs rfl ?_
    have := fl_spec hr
    rw [q2]
    rw [show zz.cells = (cellsL zz).toArray by rw [cellsL_eq]]
    exact this
  · cases h
/-- elements one behind the other -/
noncomputable def inOrd (size : Nat) (ps : List (Nat × Value)) : Nat → Option (List Value) := List.rec (motive := fun _ => Nat → Option (List Value)) (fun _ => some [])
  (fun p _ ih k => bif Nat.beq p.1 k && Nat.beq (cellsL p.2).length size then (match ih (Nat.succ k) with
    | none => none
    | some r => some (cellsL p.2 ++ r)) else none) ps
theorem inOrd_spec {size : Nat} : ∀ {ps : List (Nat × Value)} {k : Nat} {r : List Value}, inOrd size ps k = some r → ps = enumV k (ps.map (·.2)) ∧ FillCells size (ps.map (·.2)) r
  | [], k, r, h => by
    have h : some [] = some r := h
    simp only [Option.some.injEq] at h; subst h; exact ⟨rfl, .nil⟩
  | (i, v) :: ps, k, r, h => by
    have h : (bif Nat.beq i k && Nat.beq (cellsL v).length size then (match inOrd size ps (Nat.succ k) with
      | none => none
      | some r => some (cellsL v ++ r)) else none) = some r := h
    rw [cond_some] at h
    obtain ⟨h1, h⟩ := h
    simp only [Bool.and_eq_true] at h1
    split at h
    · cases h
    rename_i r' hr
    simp only [Option.some.injEq] at h
    subst h
    obtain ⟨a1, a2⟩ := inOrd_spec hr
    have e := Nat.eq_of_beq_eq_true h1.1
    subst e
    refine ⟨?_, .cons (cellsL_eq v).symm (Nat.eq_of_beq_eq_true h1.2) a2⟩
    show (i, v) :: ps = (i, v) :: enumV (i + 1) (ps.map (·.2))
    rw [← a1]
noncomputable def eBuildS1 (P : Program) (ρ : Env) (M : Mem) (t : TypeId) (n : Nat) (ps : Array (Nat × Operand)) : OR := match okps P.globals.size ρ ps.toList with
  | none => none
  | some qs => (match P.underlying t with
    | some (.slice el) => (match (P.info? el).map (·.size) with
      | none => none
      | some size => (match (P.info? el).bind (·.zero) with
        | none => none
        | some z => bif plains (cellsL z) && (Nat.ble (n * size) 16777216 && (Nat.blt 0 (n * size) && (Nat.beq (cellsL z).length size && Nat.beq qs.length n))) then (match inOrd size qs 0 with
          | none => none
          | some r => some (.slice (some ⟨M.next, 0, none⟩) n n, M.alloc r el size)) else none))
    | _ => none)
theorem eBuildS1_spec {n : Nat} {ps : Array (Nat × Operand)} (hop : o.op = .buildSlice t n ps) (h : eBuildS1 P ρ M t n ps = some (v, M')) : OpV P o ρ M.abs v M'.abs := by
  unfold eBuildS1 at h
  split at h
  · cases h
  rename_i qs hq
  obtain ⟨q1, q2⟩ := okps_spec hq
  split at h
  · rename_i el hu
    split at h
    · cases h
    rename_i size hs
    split at h
    · cases h
    rename_i zz hz
    rw [cond_some] at h
    obtain ⟨hp, h⟩ := h
    simp only [Bool.and_eq_true] at hp
    obtain ⟨p1, p2, p3, p4, p5⟩ := hp
    split at h
    · cases h
    rename_i r hr
    simp only [Option.some.injEq, Prod.mk.injEq] at h
    obtain ⟨rfl, rfl⟩ := h
    obtain ⟨a1, a2⟩ := inOrd_spec hr
    refine ov_bsA hop q1 hu hs hz (zl := cellsL zz) (by rw [← cellsL_eq]; exact p1) (by rw [cellsL_eq]) p2 p3 (Nat.eq_of_beq_eq_true p4) (q2.trans a1) a2 rfl (M.alloc_spec _ _ _) (by
      rw [List.length_map]; exact Nat.eq_of_beq_eq_true p5)
  · cases h
noncomputable def eBuildS (P : Program) (ρ : Env) (M : Mem) (t : TypeId) (n : Nat) (ps : Array (Nat × Operand)) : OR := match n, ps with
  | 0, ⟨[]⟩ => (match P.underlying t with
    | some (.slice el) => (match (P.info? el).map (·.size) with
      | none => none
      | some size => some (.slice (some ⟨M.next, 0, none⟩) 0 0, M.alloc [] el size))
    | _ => none)
  | n, ps => eBuildS1 P ρ M t n ps
theorem eBuildS_spec {n : Nat} {ps : Array (Nat × Operand)} (hop : o.op = .buildSlice t n ps) (h : eBuildS P ρ M t n ps = some (v, M')) : OpV P o ρ M.abs v M'.abs := by
  unfold eBuildS at h
  split at h
  · split at h
    · rename_i el hu
      split at h
      · cases h
      rename_i size hs
      simp only [Option.some.injEq, Prod.mk.injEq] at h
      obtain ⟨rfl, rfl⟩ := h
      exact ov_bs0 hop hu hs rfl (M.alloc_spec _ _ _)
    · cases h
  · exact eBuildS1_spec hop h
noncomputable def eMake (P : Program) (ρ : Env) (M : Mem) (t : TypeId) (x y : Operand) : OR := match okv P.globals.size ρ x with
  | some (.int _ (.ofNat m)) => (match okv P.globals.size ρ y with
    | some (.int _ (.ofNat cp)) => (match P.underlying t with
      | some (.slice el) => (match (P.info? el).map (·.size) with
        | none => none
        | some size => (match (P.info? el).map (·.bytes) with
          | none => none
          | some bytes => (match (P.info? el).bind (·.zero) with
            | none => none
            | some z => bif plains (cellsL z) && (Nat.ble m cp && (Nat.blt 0 size && (Nat.beq (cellsL z).length size && (Nat.ble (bytes * cp) 140737488355328 && Nat.blt cp 1152921504606846976)))) then
                some (.slice (some ⟨M.next, 0, none⟩) m cp, M.alloc (zeros (cellsL z) cp) el size) else none)))
      | _ => none)
    | _ => none)
  | _ => none
theorem eMake_spec (hop : o.op = .makeSlice t x y) (h : eMake P ρ M t x y = some (v, M')) : OpV P o ρ M.abs v M'.abs := by
  unfold eMake at h
  split at h
  · rename_i k m hx
    split at h
    · rename_i k' cp hy
      split at h
      · rename_i el hu
        split at h
        · cases h
        rename_i size hs
        split at h
        · cases h
        rename_i bytes hb
        split at h
        · cases h
        rename_i zz hz
        rw [cond_some] at h
        obtain ⟨hp, h⟩ := h
        simp only [Bool.and_eq_true, Nat.ble_eq, Nat.blt_eq, Nat.beq_eq] at hp
        obtain ⟨p1, p2, p3, p4, p5, p6⟩ := hp
        simp only [Option.some.injEq, Prod.mk.injEq] at h
        obtain ⟨rfl, rfl⟩ := h
        obtain ⟨x1, x2⟩ := okv_spec hx
        obtain ⟨y1, y2⟩ := okv_spec hy
        have e : (cellsL zz).length = zz.cells.size := by rw [cellsL_eq]; simp
        rw [M.alloc_spec, cellsL_eq]
        exact opv_makeSlice hop x1 y1 hu hs hb hz (by rw [← e]; exact p4) p3 (by rw [← cellsL_eq]; exact p1) x2 y2 p2 (Nat.le_trans p5 (by decide)) (Nat.lt_of_lt_of_le p6 (by decide))
      · cases h
    · cases h
  · cases h

/-! parts -/
noncomputable def bnd (G : Nat) (ρ : Env) (d : Nat) : Option Operand → Option Nat
  | none => some d
  | some x => (match okv G ρ x with
    | some (.int _ (.ofNat n)) => some n
    | _ => none)
theorem bnd_spec {G d n : Nat} {ρ : Env} {q : Option Operand} (h : bnd G ρ d q = some n) : Bnd ρ G d q n := by
  cases q with
  | none => simp only [bnd, Option.some.injEq] at h; exact h.symm
  | some x =>
    simp only [bnd] at h
    split at h
    · rename_i k m hx
      simp only [Option.some.injEq] at h; subst h
      obtain ⟨x1, x2⟩ := okv_spec hx
      exact ⟨x1, k, x2⟩
    · cases h
noncomputable def szB (M : Mem) (b size : Nat) : Bool := match M.at b with
  | none => false
  | some B => Nat.beq B.esz size
theorem szB_spec {b size : Nat} (h : szB M b size = true) : ∃ B, M.abs.m b = some B ∧ B.esz = size := by
  unfold szB at h
  split at h
  · cases h
  · rename_i B hB
    exact ⟨_, M.abs_m hB, Nat.eq_of_beq_eq_true h⟩
noncomputable def eSlice (P : Program) (ρ : Env) (M : Mem) (t : TypeId) (x : Operand) (xl xh xm : Option Operand) : OR := match okv P.globals.size ρ x with
  | none => none
  | some u => (match P.underlying t with
    | some .string => (match u with
      | .string ⟨⟨l⟩⟩ => (match xm with
        | some _ => none
        | none => (match bnd P.globals.size ρ 0 xl with
          | none => none
          | some lo => (match bnd P.globals.size ρ l.length xh with
            | none => none
            | some hi => bif Nat.ble lo hi && Nat.ble hi l.length then some (.string ⟨⟨(l.drop lo).take (hi - lo)⟩⟩, M) else none)))
      | _ => none)
    | some (.slice el) => (match (P.info? el).map (·.size) with
      | none => none
      | some size => (match bnd P.globals.size ρ 0 xl with
        | none => none
        | some lo => (match u with
          | .slice (some ⟨b, i, none⟩) l c => (match xm with
            | none => (match bnd P.globals.size ρ l xh with
              | none => none
              | some hi => bif Nat.ble lo hi && (bif Nat.blt c UNK then Nat.ble hi c else Nat.ble hi l && szB M b size) then some (.slice (some ⟨b, i + lo * size, none⟩) (hi - lo) (bif Nat.blt c UNK then c - lo else c), M) else none)
            | some m => (match xh with
              | none => none
              | some h => (match bnd P.globals.size ρ 0 (some h) with
                | none => none
                | some hi => (match bnd P.globals.size ρ 0 (some m) with
                  | none => none
                  | some mx => bif Nat.ble lo hi && (Nat.ble hi mx && (Nat.blt mx UNK && (bif Nat.blt c UNK then Nat.ble mx c else Nat.ble mx l))) then some (.slice (some ⟨b, i + lo * size, none⟩) (hi - lo) (mx - lo), M) else none))))
          | .slice none 0 0 => (match xm with
            | none => (match bnd P.globals.size ρ 0 xh with
              | none => none
              | some hi => bif Nat.beq lo 0 && Nat.beq hi 0 then some (.slice none 0 0, M) else none)
            | some m => (match xh with
              | none => none
              | some h => (match bnd P.globals.size ρ 0 (some h) with
                | none => none
                | some hi => (match bnd P.globals.size ρ 0 (some m) with
                  | none => none
                  | some mx => bif Nat.beq lo 0 && (Nat.beq hi 0 && Nat.beq mx 0) then some (.slice none 0 0, M) else none))))
          | _ => none)))
    | some (.array l el) => (match u with
      | .pointer (some ⟨b, i, none⟩) => (match xm with
        | some _ => none
        | none => (match (P.info? el).map (·.size) with
          | none => none
          | some size => (match bnd P.globals.size ρ 0 xl with
            | none => none
            | some lo => (match bnd P.globals.size ρ l xh with
              | none => none
              | some hi => bif Nat.ble lo hi && (Nat.ble hi l && Nat.blt l UNK) then some (.slice (some ⟨b, i + lo * size, none⟩) (hi - lo) (l - lo), M) else none))))
      | _ => none)
    | _ => none)
theorem capOf_eq (c lo : Nat) : (bif Nat.blt c UNK then c - lo else c) = capOf c lo := by
  unfold capOf
  by_cases h : c < UNK
  · rw [if_pos h, show Nat.blt c UNK = true from by rw [Nat.blt_eq]; exact h]; rfl
  · rw [if_neg h]
    cases hb : Nat.blt c UNK with
    | false => rfl
    | true => rw [Nat.blt_eq] at hb; exact absurd hb h
theorem eSlice_spec {xl xh xm : Option Operand} (hop : o.op = .slice t x xl xh xm) (h : eSlice P ρ M t x xl xh xm = some (v, M')) : OpV P o ρ M.abs v M'.abs := by
  unfold eSlice at h
  split at h
  · cases h
  rename_i u hx
  obtain ⟨x1, x2⟩ := okv_spec hx
  split at h
  · rename_i hu
    split at h
    · rename_i l
      split at h
      · cases h
      split at h
      · cases h
      rename_i lo hlo
      split at h
      · cases h
      rename_i hi hhi
      rw [cond_some] at h
      obtain ⟨hb, h⟩ := h
      simp only [Bool.and_eq_true, Nat.ble_eq] at hb
      simp only [Option.some.injEq, Prod.mk.injEq] at h
      obtain ⟨rfl, rfl⟩ := h
      have := opv_sliceStr (aw := M.abs) hop x1 hu x2 (bnd_spec hlo) (bnd_spec hhi) hb.1 hb.2
      rw [show (⟨⟨l⟩⟩ : ByteArray).extract lo hi = ⟨⟨(l.drop lo).take (hi - lo)⟩⟩ from mkB_extract l lo hi] at this
      exact this
    · cases h
  · rename_i el hu
    split at h
    · cases h
    rename_i size hs
    split at h
    · cases h
    rename_i lo hlo
    split at h
    · rename_i b i l c
      split at h
      · split at h
        · cases h
        rename_i hi hhi
        rw [cond_some] at h
        obtain ⟨hb, h⟩ := h
        simp only [Bool.and_eq_true, Nat.ble_eq] at hb
        simp only [Option.some.injEq, Prod.mk.injEq] at h
        obtain ⟨rfl, rfl⟩ := h
        rw [capOf_eq]
        refine opv_slice hop x1 hu hs x2 (bnd_spec hlo) (bnd_spec hhi) hb.1 ?_ ?_
        · obtain ⟨_, hb⟩ := hb
          by_cases hc : c < UNK
          · rw [if_pos hc]
            rw [show Nat.blt c UNK = true from by rw [Nat.blt_eq]; exact hc] at hb
            exact Nat.le_of_ble_eq_true hb
          · rw [if_neg hc]
            cases hq : Nat.blt c UNK with
            | true => rw [Nat.blt_eq] at hq; exact absurd hq hc
            | false =>
              rw [hq] at hb
              simp only [cond_false, Bool.and_eq_true, Nat.ble_eq] at hb
              exact hb.1
        · intro hc
          obtain ⟨_, hb⟩ := hb
          cases hq : Nat.blt c UNK with
          | true => rw [Nat.blt_eq] at hq; omega
          | false =>
            rw [hq] at hb
            simp only [cond_false, Bool.and_eq_true, Nat.ble_eq] at hb
            exact szB_spec hb.2
      · split at h
        · cases h
        split at h
        · cases h
        rename_i hi hhi
        split at h
        · cases h
        rename_i mx hmx
        rw [cond_some] at h
        obtain ⟨hb, h⟩ := h
        simp only [Bool.and_eq_true, Nat.ble_eq, Nat.blt_eq] at hb
        obtain ⟨b1, b2, b3, b4⟩ := hb
        simp only [Option.some.injEq, Prod.mk.injEq] at h
        obtain ⟨rfl, rfl⟩ := h
        refine opv_slice3 hop x1 hu hs x2 (bnd_spec hlo) (bnd_spec hhi) (bnd_spec hmx) b1 b2 ?_ b3
        by_cases hc : c < UNK
        · rw [if_pos hc]
          rw [show Nat.blt c UNK = true from by rw [Nat.blt_eq]; exact hc] at b4
          exact Nat.le_of_ble_eq_true b4
        · rw [if_neg hc]
          cases hq : Nat.blt c UNK with
          | true => rw [Nat.blt_eq] at hq; exact absurd hq hc
          | false =>
            rw [hq] at b4
            exact Nat.le_of_ble_eq_true b4
    · split at h
      · split at h
        · cases h
        rename_i hi hhi
        rw [cond_some] at h
        obtain ⟨hb, h⟩ := h
        simp only [Bool.and_eq_true, Nat.beq_eq] at hb
        obtain ⟨rfl, rfl⟩ := hb
        simp only [Option.some.injEq, Prod.mk.injEq] at h
        obtain ⟨rfl, rfl⟩ := h
        exact opv_sliceNil hop x1 hu hs x2 (bnd_spec hlo) (bnd_spec hhi)
      · split at h
        · cases h
        split at h
        · cases h
        rename_i hi hhi
        split at h
        · cases h
        rename_i mx hmx
        rw [cond_some] at h
        obtain ⟨hb, h⟩ := h
        simp only [Bool.and_eq_true, Nat.beq_eq] at hb
        obtain ⟨rfl, rfl, rfl⟩ := hb
        simp only [Option.some.injEq, Prod.mk.injEq] at h
        obtain ⟨rfl, rfl⟩ := h
        exact opv_slice3Nil hop x1 hu hs x2 (bnd_spec hlo) (bnd_spec hhi) (bnd_spec hmx)
    · cases h
  · rename_i l el hu
    split at h
    · rename_i b i
      split at h
      · cases h
      split at h
      · cases h
      rename_i size hs
      split at h
      · cases h
      rename_i lo hlo
      split at h
      · cases h
      rename_i hi hhi
      rw [cond_some] at h
      obtain ⟨hb, h⟩ := h
      simp only [Bool.and_eq_true, Nat.ble_eq, Nat.blt_eq] at hb
      simp only [Option.some.injEq, Prod.mk.injEq] at h
      obtain ⟨rfl, rfl⟩ := h
      exact opv_sliceArr hop x1 hu hs x2 (bnd_spec hlo) (bnd_spec hhi) hb.1 hb.2.1 hb.2.2
    · cases h
  · cases h
noncomputable def eFldA (P : Program) (ρ : Env) (M : Mem) (xt : TypeId) (x : Operand) (n : Nat) : OR := match okv P.globals.size ρ x with
  | some (.pointer (some ⟨b, i, none⟩)) => (match P.underlying xt with
    | some (.struct fs) => (match fs[n]? with
      | none => none
      | some f => (match (P.info? f.type).map (·.size) with
        | none => none
        | some s => bif Nat.blt 0 s then some (.pointer (some ⟨b, i + f.offset, none⟩), M) else none))
    | _ => none)
  | _ => none
theorem eFldA_spec {n : Nat} (hop : o.op = .fieldAddr xt x n) (h : eFldA P ρ M xt x n = some (v, M')) : OpV P o ρ M.abs v M'.abs := by
  unfold eFldA at h
  split at h
  · rename_i b i hx
    obtain ⟨x1, x2⟩ := okv_spec hx
    split at h
    · rename_i fs hu
      split at h
      · cases h
      rename_i f hf
      split at h
      · cases h
      rename_i s hs
      rw [cond_some] at h
      obtain ⟨hb, h⟩ := h
      rw [Nat.blt_eq] at hb
      simp only [Option.some.injEq, Prod.mk.injEq] at h
      obtain ⟨rfl, rfl⟩ := h
      exact opv_fieldAddr hop x1 hu hf hs hb x2
    · cases h
  · cases h
noncomputable def eIxA (P : Program) (ρ : Env) (M : Mem) (t : TypeId) (x y : Operand) : OR := match okv P.globals.size ρ y with
  | some (.int _ (.ofNat j)) => (match okv P.globals.size ρ x with
    | some (.slice (some ⟨b, i, none⟩) l c) => (match P.underlying t with
      | some (.slice el) => (match (P.info? el).map (·.size) with
        | none => none
        | some size => bif Nat.blt j l then some (.pointer (some ⟨b, i + j * size, none⟩), M) else none)
      | _ => none)
    | some (.pointer (some ⟨b, i, none⟩)) => (match P.underlying t with
      | some (.array l el) => (match (P.info? el).map (·.size) with
        | none => none
        | some size => bif Nat.blt j l then some (.pointer (some ⟨b, i + j * size, none⟩), M) else none)
      | _ => none)
    | _ => none)
  | _ => none
theorem eIxA_spec (hop : o.op = .indexAddr t x y) (h : eIxA P ρ M t x y = some (v, M')) : OpV P o ρ M.abs v M'.abs := by
  unfold eIxA at h
  split at h
  · rename_i k j hy
    obtain ⟨y1, y2⟩ := okv_spec hy
    split at h
    · rename_i b i l c hx
      obtain ⟨x1, x2⟩ := okv_spec hx
      split at h
      · rename_i el hu
        split at h
        · cases h
        rename_i size hs
        rw [cond_some] at h
        obtain ⟨hb, h⟩ := h
        rw [Nat.blt_eq] at hb
        simp only [Option.some.injEq, Prod.mk.injEq] at h
        obtain ⟨rfl, rfl⟩ := h
        exact opv_indexAddr hop x1 y1 hu hs x2 y2 (Int.natCast_nonneg j) (Int.ofNat_lt.2 hb)
      · cases h
    · rename_i b i hx
      obtain ⟨x1, x2⟩ := okv_spec hx
      split at h
      · rename_i l el hu
        split at h
        · cases h
        rename_i size hs
        rw [cond_some] at h
        obtain ⟨hb, h⟩ := h
        rw [Nat.blt_eq] at hb
        simp only [Option.some.injEq, Prod.mk.injEq] at h
        obtain ⟨rfl, rfl⟩ := h
        exact opv_indexAddrA hop x1 y1 hu hs x2 y2 (Int.natCast_nonneg j) (Int.ofNat_lt.2 hb)
      · cases h
    · cases h
  · cases h
noncomputable def eIx (P : Program) (ρ : Env) (M : Mem) (t : TypeId) (x y : Operand) : OR := match okv P.globals.size ρ y with
  | some (.int _ (.ofNat j)) => (match okv P.globals.size ρ x with
    | some (.string ⟨⟨a⟩⟩) => (match P.underlying t with
      | some .string => (match a[j]? with
        | none => none
        | some u => some (.int .u8 (.ofNat u.toNat), M))
      | _ => none)
    | some (.agg ⟨cs⟩) => (match P.underlying t with
      | some (.array l el) => (match P.underlying el with
        | none => none
        | some d => (match (P.info? el).map (·.size) with
          | none => none
          | some s => (match cs[j]? with
            | none => none
            | some u => bif Nat.beq s 1 && (Nat.blt j l && !aggT d) then some (u, M) else none)))
      | _ => none)
    | _ => none)
  | _ => none
theorem eIx_spec (hop : o.op = .index t x y) (h : eIx P ρ M t x y = some (v, M')) : OpV P o ρ M.abs v M'.abs := by
  unfold eIx at h
  split at h
  · rename_i k j hy
    obtain ⟨y1, y2⟩ := okv_spec hy
    split at h
    · rename_i a hx
      obtain ⟨x1, x2⟩ := okv_spec hx
      split at h
      · rename_i hu
        split at h
        · cases h
        rename_i u hj
        simp only [Option.some.injEq, Prod.mk.injEq] at h
        obtain ⟨rfl, rfl⟩ := h
        have hj' : (⟨⟨a⟩⟩ : ByteArray)[(Int.ofNat j).toNat]? = some u := by
          have hlt : j < a.length := (List.getElem?_eq_some_iff.1 hj).1
          show (⟨⟨a⟩⟩ : ByteArray)[j]? = some u
          have hs : j < (⟨⟨a⟩⟩ : ByteArray).size := hlt
          rw [getElem?_pos (⟨⟨a⟩⟩ : ByteArray) j hs]
          rw [List.getElem?_eq_getElem hlt] at hj
          exact hj
        exact opv_indexS hop x1 y1 hu x2 y2 (Int.natCast_nonneg j) hj'
      · cases h
    · rename_i cs hx
      obtain ⟨x1, x2⟩ := okv_spec hx
      split at h
      · rename_i l el hu
        split at h
        · cases h
        rename_i d hd
        split at h
        · cases h
        rename_i s hs
        split at h
        · cases h
        rename_i u hj
        rw [cond_some] at h
        obtain ⟨hb, h⟩ := h
        simp only [Bool.and_eq_true, Nat.blt_eq, Nat.beq_eq, Bool.not_eq_true'] at hb
        obtain ⟨b1, b2, b3⟩ := hb
        subst b1
        simp only [Option.some.injEq, Prod.mk.injEq] at h
        obtain ⟨rfl, rfl⟩ := h
        exact opv_indexA (size := 1) hop x1 y1 hu hd b3 hs x2 y2 (Int.natCast_nonneg j) (Int.ofNat_lt.2 b2) (by show (⟨cs⟩ : Array Value)[j]? = some u; simpa using hj)
      · cases h
    · cases h
  · cases h
end
end Go.Ri
