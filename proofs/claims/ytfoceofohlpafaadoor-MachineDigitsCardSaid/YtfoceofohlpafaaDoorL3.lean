/- The library of this claim, part 3: values alike, an abstract memory, operations, regions, an interpreter that the kernel runs. -/
import Derived.Test.YtfoceofohlpafaaDoorL2
set_option linter.unusedSimpArgs false
set_option linter.unusedVariables false
set_option linter.unusedSectionVars false
namespace Go.Ri
open Go Go.Am Go.RowKit
variable [SymE]
variable [FT] [FTok]
section
variable {P : Program} {ρ : Env} {M M' : Mem} {o : Oper} {v : Value} {xt yt t : TypeId} {x y z : Operand}
noncomputable def okps (G : Nat) (ρ : Env) : List (Nat × Operand) → Option (List (Nat × Value)) := List.rec (motive := fun _ => Option (List (Nat × Value))) (some [])
  fun p _ ih => match okv G ρ p.2 with
    | none => none
    | some v => (match ih with
      | none => none
      | some l => some ((p.1, v) :: l))
theorem okps_spec {G : Nat} {ρ : Env} : ∀ {xs : List (Nat × Operand)} {l : List (Nat × Value)}, okps G ρ xs = some l → (xs.all fun p => okOpd G p.2) = true ∧ xs.map (fun p => (p.1, ρ.eval p.2)) = l
  | [], l, h => by
    have h : some [] = some l := h
    simp only [Option.some.injEq] at h; subst h; exact ⟨rfl, rfl⟩
  | x :: xs, l, h => by
    have h : (match okv G ρ x.2 with
      | none => none
      | some v => (match okps G ρ xs with
        | none => none
        | some l => some ((x.1, v) :: l))) = some l := h
    cases hx : okv G ρ x.2 with
    | none => rw [hx] at h; cases h
    | some v =>
      rw [hx] at h
      simp only at h
      cases hr : okps G ρ xs with
      | none => rw [hr] at h; cases h
      | some r =>
        rw [hr] at h
        simp only [Option.some.injEq] at h
        subst h
        obtain ⟨a1, a2⟩ := okv_spec hx
        obtain ⟨b1, b2⟩ := okps_spec hr
        exact ⟨by simp [a1]; simpa using b1, by simp [a2, b2]⟩
noncomputable def fl (place : Nat → Option (Nat × Nat)) (ps : List (Nat × Value)) : List Value → Option (List Value) := List.rec (motive := fun _ => List Value → Option (List Value)) (fun cs => some cs)
  (fun p _ ih cs => match place p.1 with
    | none => none
    | some (off, n) => bif Nat.beq (cellsL p.2).length n && Nat.ble (off + n) cs.length then ih (putL cs off (cellsL p.2)) else none) ps
theorem fl_spec {place : Nat → Option (Nat × Nat)} : ∀ {ps : List (Nat × Value)} {cs r : List Value}, fl place ps cs = some r → Instr.fill place cs.toArray ps = some r.toArray
  | [], cs, r, h => by
    have h : some cs = some r := h
    simp only [Option.some.injEq] at h; exact fillN h
  | (i, v) :: ps, cs, r, h => by
    have h : (match place i with
      | none => none
      | some (off, n) => bif Nat.beq (cellsL v).length n && Nat.ble (off + n) cs.length then fl place ps (putL cs off (cellsL v)) else none) = some r := h
    split at h
    · cases h
    · rename_i off n hp
      rw [cond_some] at h
      obtain ⟨h1, h2⟩ := h
      simp only [Bool.and_eq_true] at h1
      exact fillP (xs := cellsL v) (cellsL_eq v).symm (Nat.eq_of_beq_eq_true h1.1) hp h1.2 (fl_spec h2)
noncomputable def eBuild (P : Program) (ρ : Env) (M : Mem) (t : TypeId) (ps : Array (Nat × Operand)) : OR := match okps P.globals.size ρ ps.toList with
  | none => none
  | some qs => (match (P.info? t).bind (·.zero) with
    | none => none
    | some z => bif plains (cellsL z) then (match P.underlying t with
      | some (.struct fs) => bif fs.toList.all (fun f => (P.info? f.type).isSome) then (match fl (fun i => (placesOf P fs.toList)[i]?) qs (cellsL z) with
        | none => none
        | some r => some (.agg ⟨r⟩, M)) else none
      | _ => none) else none)
theorem eBuild_spec {ps : Array (Nat × Operand)} (hop : o.op = .build t ps) (h : eBuild P ρ M t ps = some (v, M')) : OpV P o ρ M.abs v M'.abs := by
  unfold eBuild at h
  split at h
  · cases h
  rename_i qs hq
  obtain ⟨q1, q2⟩ := okps_spec hq
  split at h
  · cases h
  rename_i zz hz
  rw [cond_some] at h
  obtain ⟨hp, h⟩ := h
  split at h
  · rename_i fs hu
    rw [cond_some] at h
    obtain ⟨hfs, h⟩ := h
    split at h
    · cases h
    rename_i r hr
    simp only [Option.some.injEq, Prod.mk.injEq] at h
    obtain ⟨rfl, rfl⟩ := h
    refine opv_build hop q1 hz (by rw [← cellsL_eq]; exact hp) hu hfs rfl ?_
    have := fl_spec hr
    rw [q2]
    rw [show zz.cells = (cellsL zz).toArray by rw [cellsL_eq]]
    exact this
  · cases h
noncomputable def inOrd (size : Nat) (ps : List (Nat × Value)) : Nat → Option (List Value) := List.rec (motive := fun _ => Nat → Option (List Value)) (fun _ => some [])
  (fun p _ ih k => bif Nat.beq p.1 k && Nat.beq (cellsL p.2).length size then (match ih (Nat.succ k) with
    | none => none
    | some r => some (cellsL p.2 ++ r)) else none) ps
theorem inOrd_spec {size : Nat} : ∀ {ps : List (Nat × Value)} {k : Nat} {r : List Value}, inOrd size ps k = some r → ps = enumV k (ps.map (·.2)) ∧ FillCells size (ps.map (·.2)) r
  | [], k, r, h => by
    have h : some [] = some r := h
    simp only [Option.some.injEq] at h; subst h; exact ⟨rfl, .nil⟩
  | (i, v) :: ps, k, r, h => by
    have h : (bif Nat.beq i k && Nat.beq (cellsL v).length size then (match inOrd size ps (Nat.succ k) with
      | none => none
      | some r => some (cellsL v ++ r)) else none) = some r := h
    rw [cond_some] at h
    obtain ⟨h1, h⟩ := h
    simp only [Bool.and_eq_true] at h1
    split at h
    · cases h
    rename_i r' hr
    simp only [Option.some.injEq] at h
    subst h
    obtain ⟨a1, a2⟩ := inOrd_spec hr
    have e := Nat.eq_of_beq_eq_true h1.1
    subst e
    refine ⟨?_, .cons (cellsL_eq v).symm (Nat.eq_of_beq_eq_true h1.2) a2⟩
    show (i, v) :: ps = (i, v) :: enumV (i + 1) (ps.map (·.2))
    rw [← a1]
noncomputable def eBuildS1 (P : Program) (ρ : Env) (M : Mem) (t : TypeId) (n : Nat) (ps : Array (Nat × Operand)) : OR := match okps P.globals.size ρ ps.toList with
  | none => none
  | some qs => (match P.underlying t with
    | some (.slice el) => (match (P.info? el).map (·.size) with
      | none => none
      | some size => (match (P.info? el).bind (·.zero) with
        | none => none
        | some z => bif plains (cellsL z) && (Nat.ble (n * size) 16777216 && (Nat.blt 0 (n * size) && (Nat.beq (cellsL z).length size && Nat.beq qs.length n))) then (match inOrd size qs 0 with
          | none => none
          | some r => some (.slice (some ⟨M.next, 0, none⟩) n n, M.alloc r el size)) else none))
    | _ => none)
theorem eBuildS1_spec {n : Nat} {ps : Array (Nat × Operand)} (hop : o.op = .buildSlice t n ps) (h : eBuildS1 P ρ M t n ps = some (v, M')) : OpV P o ρ M.abs v M'.abs := by
  unfold eBuildS1 at h
  split at h
  · cases h
  rename_i qs hq
  obtain ⟨q1, q2⟩ := okps_spec hq
  split at h
  · rename_i el hu
    split at h
    · cases h
    rename_i size hs
    split at h
    · cases h
    rename_i zz hz
    rw [cond_some] at h
    obtain ⟨hp, h⟩ := h
    simp only [Bool.and_eq_true] at hp
    obtain ⟨p1, p2, p3, p4, p5⟩ := hp
    split at h
    · cases h
    rename_i r hr
    simp only [Option.some.injEq, Prod.mk.injEq] at h
    obtain ⟨rfl, rfl⟩ := h
    obtain ⟨a1, a2⟩ := inOrd_spec hr
    refine ov_bsA hop q1 hu hs hz (zl := cellsL zz) (by rw [← cellsL_eq]; exact p1) (by rw [cellsL_eq]) p2 p3 (Nat.eq_of_beq_eq_true p4) (q2.trans a1) a2 rfl (M.alloc_spec _ _ _) (by
      rw [List.length_map]; exact Nat.eq_of_beq_eq_true p5)
  · cases h
noncomputable def eBuildS (P : Program) (ρ : Env) (M : Mem) (t : TypeId) (n : Nat) (ps : Array (Nat × Operand)) : OR := match n, ps with
  | 0, ⟨[]⟩ => (match P.underlying t with
    | some (.slice el) => (match (P.info? el).map (·.size) with
      | none => none
      | some size => some (.slice (some ⟨M.next, 0, none⟩) 0 0, M.alloc [] el size))
    | _ => none)
  | n, ps => eBuildS1 P ρ M t n ps
theorem eBuildS_spec {n : Nat} {ps : Array (Nat × Operand)} (hop : o.op = .buildSlice t n ps) (h : eBuildS P ρ M t n ps = some (v, M')) : OpV P o ρ M.abs v M'.abs := by
  unfold eBuildS at h
  split at h
  · split at h
    · rename_i el hu
      split at h
      · cases h
      rename_i size hs
      simp only [Option.some.injEq, Prod.mk.injEq] at h
      obtain ⟨rfl, rfl⟩ := h
      exact ov_bs0 hop hu hs rfl (M.alloc_spec _ _ _)
    · cases h
  · exact eBuildS1_spec hop h
noncomputable def eMake (P : Program) (ρ : Env) (M : Mem) (t : TypeId) (x y : Operand) : OR := match okv P.globals.size ρ x with
  | some (.int _ (.ofNat m)) => (match okv P.globals.size ρ y with
    | some (.int _ (.ofNat cp)) => (match P.underlying t with
      | some (.slice el) => (match (P.info? el).map (·.size) with
        | none => none
        | some size => (match (P.info? el).map (·.bytes) with
          | none => none
          | some bytes => (match (P.info? el).bind (·.zero) with
            | none => none
            | some z => bif plains (cellsL z) && (Nat.ble m cp && (Nat.blt 0 size && (Nat.beq (cellsL z).length size && (Nat.ble (bytes * cp) 140737488355328 && Nat.blt cp 1152921504606846976)))) then
                some (.slice (some ⟨M.next, 0, none⟩) m cp, M.alloc (zeros (cellsL z) cp) el size) else none)))
      | _ => none)
    | _ => none)
  | _ => none
theorem eMake_spec (hop : o.op = .makeSlice t x y) (h : eMake P ρ M t x y = some (v, M')) : OpV P o ρ M.abs v M'.abs := by
  unfold eMake at h
  split at h
  · rename_i k m hx
    split at h
    · rename_i k' cp hy
      split at h
      · rename_i el hu
        split at h
        · cases h
        rename_i size hs
        split at h
        · cases h
        rename_i bytes hb
        split at h
        · cases h
        rename_i zz hz
        rw [cond_some] at h
        obtain ⟨hp, h⟩ := h
        simp only [Bool.and_eq_true, Nat.ble_eq, Nat.blt_eq, Nat.beq_eq] at hp
        obtain ⟨p1, p2, p3, p4, p5, p6⟩ := hp
        simp only [Option.some.injEq, Prod.mk.injEq] at h
        obtain ⟨rfl, rfl⟩ := h
        obtain ⟨x1, x2⟩ := okv_spec hx
        obtain ⟨y1, y2⟩ := okv_spec hy
        have e : (cellsL zz).length = zz.cells.size := by rw [cellsL_eq]; simp
        rw [M.alloc_spec, cellsL_eq]
        exact opv_makeSlice hop x1 y1 hu hs hb hz (by rw [← e]; exact p4) p3 (by rw [← cellsL_eq]; exact p1) x2 y2 p2 (Nat.le_trans p5 (by decide)) (Nat.lt_of_lt_of_le p6 (by decide))
      · cases h
    · cases h
  · cases h
noncomputable def bnd (G : Nat) (ρ : Env) (d : Nat) : Option Operand → Option Nat
  | none => some d
  | some x => (match okv G ρ x with
    | some (.int _ (.ofNat n)) => some n
    | _ => none)
theorem bnd_spec {G d n : Nat} {ρ : Env} {q : Option Operand} (h : bnd G ρ d q = some n) : Bnd ρ G d q n := by
  cases q with
  | none => simp only [bnd, Option.some.injEq] at h; exact h.symm
  | some x =>
    simp only [bnd] at h
    split at h
    · rename_i k m hx
      simp only [Option.some.injEq] at h; subst h
      obtain ⟨x1, x2⟩ := okv_spec hx
      exact ⟨x1, k, x2⟩
    · cases h
noncomputable def szB (M : Mem) (b size : Nat) : Bool := match M.at b with
  | none => false
  | some B => Nat.beq B.esz size
theorem szB_spec {b size : Nat} (h : szB M b size = true) : ∃ B, M.abs.m b = some B ∧ B.esz = size := by
  unfold szB at h
  split at h
  · cases h
  · rename_i B hB
    exact ⟨_, M.abs_m hB, Nat.eq_of_beq_eq_true h⟩
noncomputable def eSlice (P : Program) (ρ : Env) (M : Mem) (t : TypeId) (x : Operand) (xl xh xm : Option Operand) : OR := match okv P.globals.size ρ x with
  | none => none
  | some u => (match P.underlying t with
    | some .string => (match u with
      | .string ⟨⟨l⟩⟩ => (match xm with
        | some _ => none
        | none => (match bnd P.globals.size ρ 0 xl with
          | none => none
          | some lo => (match bnd P.globals.size ρ l.length xh with
            | none => none
            | some hi => bif Nat.ble lo hi && Nat.ble hi l.length then some (.string ⟨⟨(l.drop lo).take (hi - lo)⟩⟩, M) else none)))
      | _ => none)
    | some (.slice el) => (match (P.info? el).map (·.size) with
      | none => none
      | some size => (match bnd P.globals.size ρ 0 xl with
        | none => none
        | some lo => (match u with
          | .slice (some ⟨b, i, none⟩) l c => (match xm with
            | none => (match bnd P.globals.size ρ l xh with
              | none => none
              | some hi => bif Nat.ble lo hi && (bif Nat.blt c UNK then Nat.ble hi c else Nat.ble hi l && szB M b size) then some (.slice (some ⟨b, i + lo * size, none⟩) (hi - lo) (bif Nat.blt c UNK then c - lo else c), M) else none)
            | some m => (match xh with
              | none => none
              | some h => (match bnd P.globals.size ρ 0 (some h) with
                | none => none
                | some hi => (match bnd P.globals.size ρ 0 (some m) with
                  | none => none
                  | some mx => bif Nat.ble lo hi && (Nat.ble hi mx && (Nat.blt mx UNK && (bif Nat.blt c UNK then Nat.ble mx c else Nat.ble mx l))) then some (.slice (some ⟨b, i + lo * size, none⟩) (hi - lo) (mx - lo), M) else none))))
          | .slice none 0 0 => (match xm with
            | none => (match bnd P.globals.size ρ 0 xh with
              | none => none
              | some hi => bif Nat.beq lo 0 && Nat.beq hi 0 then some (.slice none 0 0, M) else none)
            | some m => (match xh with
              | none => none
              | some h => (match bnd P.globals.size ρ 0 (some h) with
                | none => none
                | some hi => (match bnd P.globals.size ρ 0 (some m) with
                  | none => none
                  | some mx => bif Nat.beq lo 0 && (Nat.beq hi 0 && Nat.beq mx 0) then some (.slice none 0 0, M) else none))))
          | _ => none)))
    | some (.array l el) => (match u with
      | .pointer (some ⟨b, i, none⟩) => (match xm with
        | some _ => none
        | none => (match (P.info? el).map (·.size) with
          | none => none
          | some size => (match bnd P.globals.size ρ 0 xl with
            | none => none
            | some lo => (match bnd P.globals.size ρ l xh with
              | none => none
              | some hi => bif Nat.ble lo hi && (Nat.ble hi l && Nat.blt l UNK) then some (.slice (some ⟨b, i + lo * size, none⟩) (hi - lo) (l - lo), M) else none))))
      | _ => none)
    | _ => none)
theorem capOf_eq (c lo : Nat) : (bif Nat.blt c UNK then c - lo else c) = capOf c lo := by
  unfold capOf
  by_cases h : c < UNK
  · rw [if_pos h, show Nat.blt c UNK = true from by rw [Nat.blt_eq]; exact h]; rfl
  · rw [if_neg h]
    cases hb : Nat.blt c UNK with
    | false => rfl
    | true => rw [Nat.blt_eq] at hb; exact absurd hb h
theorem eSlice_spec {xl xh xm : Option Operand} (hop : o.op = .slice t x xl xh xm) (h : eSlice P ρ M t x xl xh xm = some (v, M')) : OpV P o ρ M.abs v M'.abs := by
  unfold eSlice at h
  split at h
  · cases h
  rename_i u hx
  obtain ⟨x1, x2⟩ := okv_spec hx
  split at h
  · rename_i hu
    split at h
    · rename_i l
      split at h
      · cases h
      split at h
      · cases h
      rename_i lo hlo
      split at h
      · cases h
      rename_i hi hhi
      rw [cond_some] at h
      obtain ⟨hb, h⟩ := h
      simp only [Bool.and_eq_true, Nat.ble_eq] at hb
      simp only [Option.some.injEq, Prod.mk.injEq] at h
      obtain ⟨rfl, rfl⟩ := h
      have := opv_sliceStr (aw := M.abs) hop x1 hu x2 (bnd_spec hlo) (bnd_spec hhi) hb.1 hb.2
      rw [show (⟨⟨l⟩⟩ : ByteArray).extract lo hi = ⟨⟨(l.drop lo).take (hi - lo)⟩⟩ from mkB_extract l lo hi] at this
      exact this
    · cases h
  · rename_i el hu
    split at h
    · cases h
    rename_i size hs
    split at h
    · cases h
    rename_i lo hlo
    split at h
    · rename_i b i l c
      split at h
      · split at h
        · cases h
        rename_i hi hhi
        rw [cond_some] at h
        obtain ⟨hb, h⟩ := h
        simp only [Bool.and_eq_true, Nat.ble_eq] at hb
        simp only [Option.some.injEq, Prod.mk.injEq] at h
        obtain ⟨rfl, rfl⟩ := h
        rw [capOf_eq]
        refine opv_slice hop x1 hu hs x2 (bnd_spec hlo) (bnd_spec hhi) hb.1 ?_ ?_
        · obtain ⟨_, hb⟩ := hb
          by_cases hc : c < UNK
          · rw [if_pos hc]
            rw [show Nat.blt c UNK = true from by rw [Nat.blt_eq]; exact hc] at hb
            exact Nat.le_of_ble_eq_true hb
          · rw [if_neg hc]
            cases hq : Nat.blt c UNK with
            | true => rw [Nat.blt_eq] at hq; exact absurd hq hc
            | false =>
              rw [hq] at hb
              simp only [cond_false, Bool.and_eq_true, Nat.ble_eq] at hb
              exact hb.1
        · intro hc
          obtain ⟨_, hb⟩ := hb
          cases hq : Nat.blt c UNK with
          | true => rw [Nat.blt_eq] at hq; omega
          | false =>
            rw [hq] at hb
            simp only [cond_false, Bool.and_eq_true, Nat.ble_eq] at hb
            exact szB_spec hb.2
      · split at h
        · cases h
        split at h
        · cases h
        rename_i hi hhi
        split at h
        · cases h
        rename_i mx hmx
        rw [cond_some] at h
        obtain ⟨hb, h⟩ := h
        simp only [Bool.and_eq_true, Nat.ble_eq, Nat.blt_eq] at hb
        obtain ⟨b1, b2, b3, b4⟩ := hb
        simp only [Option.some.injEq, Prod.mk.injEq] at h
        obtain ⟨rfl, rfl⟩ := h
        refine opv_slice3 hop x1 hu hs x2 (bnd_spec hlo) (bnd_spec hhi) (bnd_spec hmx) b1 b2 ?_ b3
        by_cases hc : c < UNK
        · rw [if_pos hc]
          rw [show Nat.blt c UNK = true from by rw [Nat.blt_eq]; exact hc] at b4
          exact Nat.le_of_ble_eq_true b4
        · rw [if_neg hc]
          cases hq : Nat.blt c UNK with
          | true => rw [Nat.blt_eq] at hq; exact absurd hq hc
          | false =>
            rw [hq] at b4
            exact Nat.le_of_ble_eq_true b4
    · split at h
      · split at h
        · cases h
        rename_i hi hhi
        rw [cond_some] at h
        obtain ⟨hb, h⟩ := h
        simp only [Bool.and_eq_true, Nat.beq_eq] at hb
        obtain ⟨rfl, rfl⟩ := hb
        simp only [Option.some.injEq, Prod.mk.injEq] at h
        obtain ⟨rfl, rfl⟩ := h
        exact opv_sliceNil hop x1 hu hs x2 (bnd_spec hlo) (bnd_spec hhi)
      · split at h
        · cases h
        split at h
        · cases h
        rename_i hi hhi
        split at h
        · cases h
        rename_i mx hmx
        rw [cond_some] at h
        obtain ⟨hb, h⟩ := h
        simp only [Bool.and_eq_true, Nat.beq_eq] at hb
        obtain ⟨rfl, rfl, rfl⟩ := hb
        simp only [Option.some.injEq, Prod.mk.injEq] at h
        obtain ⟨rfl, rfl⟩ := h
        exact opv_slice3Nil hop x1 hu hs x2 (bnd_spec hlo) (bnd_spec hhi) (bnd_spec hmx)
    · cases h
  · rename_i l el hu
    split at h
    · rename_i b i
      split at h
      · cases h
      split at h
      · cases h
      rename_i size hs
      split at h
      · cases h
      rename_i lo hlo
      split at h
      · cases h
      rename_i hi hhi
      rw [cond_some] at h
      obtain ⟨hb, h⟩ := h
      simp only [Bool.and_eq_true, Nat.ble_eq, Nat.blt_eq] at hb
      simp only [Option.some.injEq, Prod.mk.injEq] at h
      obtain ⟨rfl, rfl⟩ := h
      exact opv_sliceArr hop x1 hu hs x2 (bnd_spec hlo) (bnd_spec hhi) hb.1 hb.2.1 hb.2.2
    · cases h
  · cases h
noncomputable def eFldA (P : Program) (ρ : Env) (M : Mem) (xt : TypeId) (x : Operand) (n : Nat) : OR := match okv P.globals.size ρ x with
  | some (.pointer (some ⟨b, i, none⟩)) => (match P.underlying xt with
    | some (.struct fs) => (match fs[n]? with
      | none => none
      | some f => (match (P.info? f.type).map (·.size) with
        | none => none
        | some s => bif Nat.blt 0 s then some (.pointer (some ⟨b, i + f.offset, none⟩), M) else none))
    | _ => none)
  | _ => none
theorem eFldA_spec {n : Nat} (hop : o.op = .fieldAddr xt x n) (h : eFldA P ρ M xt x n = some (v, M')) : OpV P o ρ M.abs v M'.abs := by
  unfold eFldA at h
  split at h
  · rename_i b i hx
    obtain ⟨x1, x2⟩ := okv_spec hx
    split at h
    · rename_i fs hu
      split at h
      · cases h
      rename_i f hf
      split at h
      · cases h
      rename_i s hs
      rw [cond_some] at h
      obtain ⟨hb, h⟩ := h
      rw [Nat.blt_eq] at hb
      simp only [Option.some.injEq, Prod.mk.injEq] at h
      obtain ⟨rfl, rfl⟩ := h
      exact opv_fieldAddr hop x1 hu hf hs hb x2
    · cases h
  · cases h
noncomputable def eIxA (P : Program) (ρ : Env) (M : Mem) (t : TypeId) (x y : Operand) : OR := match okv P.globals.size ρ y with
  | some (.int _ (.ofNat j)) => (match okv P.globals.size ρ x with
    | some (.slice (some ⟨b, i, none⟩) l c) => (match P.underlying t with
      | some (.slice el) => (match (P.info? el).map (·.size) with
        | none => none
        | some size => bif Nat.blt j l then some (.pointer (some ⟨b, i + j * size, none⟩), M) else none)
      | _ => none)
    | some (.pointer (some ⟨b, i, none⟩)) => (match P.underlying t with
      | some (.array l el) => (match (P.info? el).map (·.size) with
        | none => none
        | some size => bif Nat.blt j l then some (.pointer (some ⟨b, i + j * size, none⟩), M) else none)
      | _ => none)
    | _ => none)
  | _ => none
theorem eIxA_spec (hop : o.op = .indexAddr t x y) (h : eIxA P ρ M t x y = some (v, M')) : OpV P o ρ M.abs v M'.abs := by
  unfold eIxA at h
  split at h
  · rename_i k j hy
    obtain ⟨y1, y2⟩ := okv_spec hy
    split at h
    · rename_i b i l c hx
      obtain ⟨x1, x2⟩ := okv_spec hx
      split at h
      · rename_i el hu
        split at h
        · cases h
        rename_i size hs
        rw [cond_some] at h
        obtain ⟨hb, h⟩ := h
        rw [Nat.blt_eq] at hb
        simp only [Option.some.injEq, Prod.mk.injEq] at h
        obtain ⟨rfl, rfl⟩ := h
        exact opv_indexAddr hop x1 y1 hu hs x2 y2 (Int.natCast_nonneg j) (Int.ofNat_lt.2 hb)
      · cases h
    · rename_i b i hx
      obtain ⟨x1, x2⟩ := okv_spec hx
      split at h
      · rename_i l el hu
        split at h
        · cases h
        rename_i size hs
        rw [cond_some] at h
        obtain ⟨hb, h⟩ := h
        rw [Nat.blt_eq] at hb
        simp only [Option.some.injEq, Prod.mk.injEq] at h
        obtain ⟨rfl, rfl⟩ := h
        exact opv_indexAddrA hop x1 y1 hu hs x2 y2 (Int.natCast_nonneg j) (Int.ofNat_lt.2 hb)
      · cases h
    · cases h
  · cases h
noncomputable def eIx (P : Program) (ρ : Env) (M : Mem) (t : TypeId) (x y : Operand) : OR := match okv P.globals.size ρ y with
  | some (.int _ (.ofNat j)) => (match okv P.globals.size ρ x with
    | some (.string ⟨⟨a⟩⟩) => (match P.underlying t with
      | some .string => (match a[j]? with
        | none => none
        | some u => some (.int .u8 (.ofNat u.toNat), M))
      | _ => none)
    | some (.agg ⟨cs⟩) => (match P.underlying t with
      | some (.array l el) => (match P.underlying el with
        | none => none
        | some d => (match (P.info? el).map (·.size) with
          | none => none
          | some s => (match cs[j]? with
            | none => none
            | some u => bif Nat.beq s 1 && (Nat.blt j l && !aggT d) then some (u, M) else none)))
      | _ => none)
    | _ => none)
  | _ => none
theorem eIx_spec (hop : o.op = .index t x y) (h : eIx P ρ M t x y = some (v, M')) : OpV P o ρ M.abs v M'.abs := by
  unfold eIx at h
  split at h
  · rename_i k j hy
    obtain ⟨y1, y2⟩ := okv_spec hy
    split at h
    · rename_i a hx
      obtain ⟨x1, x2⟩ := okv_spec hx
      split at h
      · rename_i hu
        split at h
        · cases h
        rename_i u hj
        simp only [Option.some.injEq, Prod.mk.injEq] at h
        obtain ⟨rfl, rfl⟩ := h
        have hj' : (⟨⟨a⟩⟩ : ByteArray)[(Int.ofNat j).toNat]? = some u := by
          have hlt : j < a.length := (List.getElem?_eq_some_iff.1 hj).1
          show (⟨⟨a⟩⟩ : ByteArray)[j]? = some u
          have hs : j < (⟨⟨a⟩⟩ : ByteArray).size := hlt
          rw [getElem?_pos (⟨⟨a⟩⟩ : ByteArray) j hs]
          rw [List.getElem?_eq_getElem hlt] at hj
          exact hj
        exact opv_indexS hop x1 y1 hu x2 y2 (Int.natCast_nonneg j) hj'
      · cases h
    · rename_i cs hx
      obtain ⟨x1, x2⟩ := okv_spec hx
      split at h
      · rename_i l el hu
        split at h
        · cases h
        rename_i d hd
        split at h
        · cases h
        rename_i s hs
        split at h
        · cases h
        rename_i u hj
        rw [cond_some] at h
        obtain ⟨hb, h⟩ := h
        simp only [Bool.and_eq_true, Nat.blt_eq, Nat.beq_eq, Bool.not_eq_true'] at hb
        obtain ⟨b1, b2, b3⟩ := hb
        subst b1
        simp only [Option.some.injEq, Prod.mk.injEq] at h
        obtain ⟨rfl, rfl⟩ := h
        exact opv_indexA (size := 1) hop x1 y1 hu hd b3 hs x2 y2 (Int.natCast_nonneg j) (Int.ofNat_lt.2 b2) (by show (⟨cs⟩ : Array Value)[j]? = some u; simpa using hj)
      · cases h
    · cases h
  · cases h
end
end Go.Ri
set_option linter.unusedSimpArgs false
set_option linter.unusedVariables false
set_option linter.unusedSectionVars false
namespace Go.Ri
open Go Go.Am Go.RowKit
variable [SymE]
variable [FT] [FTok]
section
variable {P : Program} {ρ : Env} {M M' : Mem} {o : Oper} {v : Value} {xt yt t : TypeId} {x y z : Operand}
noncomputable def Mem.grow (M : Mem) (B : RB) (keep : Nat) (cs : List Value) (el esz : Nat) : Mem := T.dn (T.ofL cs keep B.cells) fun t => T.dn (T.set (some (⟨t, keep + cs.length, el, esz, true⟩ : RB)) M.bl M.next) fun u => ⟨u, Nat.succ M.next⟩
theorem Mem.grow_spec (M : Mem) (B : RB) {keep : Nat} (hk : keep ≤ B.len) (cs : List Value) (el esz : Nat) (hne : cs ≠ []) : (M.grow B keep cs el esz).abs = M.abs.alloc (B.abs.cells.take keep ++ cs) el esz := by
  unfold Mem.grow
  simp only [T.dn_eq]
  refine AW.ext' ?_ rfl
  funext k
  show Option.map RB.abs (Mem.at ⟨T.set (some (⟨T.ofL cs keep B.cells, keep + cs.length, el, esz, true⟩ : RB)) M.bl M.next, M.next + 1⟩ k) = if k = M.next then some ⟨_, el, esz, true, 0⟩ else Option.map RB.abs (M.at k)
  unfold Mem.at
  simp only [T.get_set]
  by_cases hc : k = M.next
  · subst hc
    simp only [if_true, Option.map_some, Option.some.injEq]
    simp only [RB.abs, Blk.mk.injEq, and_true]
    apply List.ext_getElem?
    intro j
    simp only [List.getElem?_map]
    rcases Nat.lt_or_ge j (keep + cs.length) with hj | hj
    · rw [List.getElem?_range hj]
      simp only [Option.map_some, T.get_ofL]
      rcases Nat.lt_or_ge j keep with h3 | h3
      · rw [if_neg (by omega), List.getElem?_append_left (by simp; omega), List.getElem?_take_of_lt h3, List.getElem?_map, List.getElem?_range (by omega)]; rfl
      · rw [if_pos ⟨h3, hj⟩, List.getElem?_append_right (by simp; omega)]
        have : ((List.range B.len).map fun i => (B.cells.get i).getD undef).length = B.len := by simp
        rw [List.length_take, this, Nat.min_eq_left hk, List.getElem?_eq_getElem (by omega)]; rfl
    · rw [List.getElem?_eq_none (by simp; omega), List.getElem?_eq_none (by simp; omega)]; rfl
  · simp only [if_neg hc]
theorem RB.take_spec {b : Nat} {B : RB} (hB : M.at b = some B) {keep : Nat} (hk : keep ≤ B.len) : M.abs.getN b 0 keep = some (B.abs.cells.take keep) := by
  have := AW.getN_of (aw := M.abs) (b := b) (cs := B.abs.cells.take keep) (i := 0) (fun j u hj => by
    rw [Nat.zero_add, AW.get, M.abs_m hB]
    show B.abs.cells[j]? = some u
    have hlt : j < keep := by
      have := (List.getElem?_eq_some_iff.1 hj).1
      rw [List.length_take] at this; omega
    rw [List.getElem?_take_of_lt hlt] at hj
    exact hj)
  rw [List.length_take, B.abs_len, Nat.min_eq_left hk] at this
  exact this
noncomputable def eAppend (P : Program) (ρ : Env) (M : Mem) (sT xT : TypeId) (x y : Operand) : OR := match okv P.globals.size ρ x with
  | some (.slice q l c) => (match okv P.globals.size ρ y with
    | none => none
    | some xv => (match P.underlying sT with
      | some (.slice el) => (match P.underlying xT with
        | none => none
        | some dx => bif notInt dx then (match (P.info? el).map (·.size) with
          | none => none
          | some size => (match src M size xv with
            | none => none
            | some (0, cs) => some (.slice q l c, M)
            | some (Nat.succ n, cs) => (match (P.info? el).map (·.bytes) with
              | none => none
              | some bytes => (match (P.info? el).bind (·.zero) with
                | none => none
                | some z => bif Nat.beq (cellsL z).length size && (Nat.blt 0 bytes && (Nat.blt 0 size && Nat.ble ((2 * (l + Nat.succ n) + 768) * bytes) 281474976710656)) then
                  (bif Nat.blt c UNK then
                    (bif Nat.ble (l + Nat.succ n) c then (match q with
                      | some ⟨b, i, none⟩ => (match M.setN b (i + l * size) cs with
                        | none => none
                        | some M' => some (.slice (some ⟨b, i, none⟩) (l + Nat.succ n) c, M'))
                      | _ => none)
                    else (match src M size (.slice q l c) with
                      | none => none
                      | some (l', os) => bif Nat.beq l' l then some (.slice (some ⟨M.next, 0, none⟩) (l + Nat.succ n) UNK, M.alloc (os ++ cs) el size) else none))
                  else (match q with
                    | some ⟨b, 0, none⟩ => (match M.at b with
                      | none => none
                      | some B => bif B.rw && (Nat.beq B.elem el && (Nat.beq B.esz size && (cs.all one && Nat.ble (l * size) B.len))) then
                          some (.slice (some ⟨M.next, 0, none⟩) (l + Nat.succ n) UNK, (M.kill b).grow B (l * size) cs el size) else none)
                    | _ => none)) else none))))
          else none)
      | _ => none))
  | _ => none
theorem eAppend_spec {sT xT : TypeId} (hop : o.op = .call { callee := .builtin .append, args := #[x, y], argTypes := #[sT, xT] }) (h : eAppend P ρ M sT xT x y = some (v, M')) : OpV P o ρ M.abs v M'.abs := by
  unfold eAppend at h
  split at h
  · rename_i q l c hx
    obtain ⟨x1, x2⟩ := okv_spec hx
    split at h
    · cases h
    rename_i xv hy
    obtain ⟨y1, y2⟩ := okv_spec hy
    split at h
    · rename_i el hu
      split at h
      · cases h
      rename_i dx hxu
      rw [cond_some] at h
      obtain ⟨hni, h⟩ := h
      split at h
      · cases h
      rename_i size hs
      split at h
      · cases h
      · rename_i cs hsrc
        simp only [Option.some.injEq, Prod.mk.injEq] at h
        obtain ⟨rfl, rfl⟩ := h
        exact opv_append0 hop rfl x1 y1 hu hs hxu hni x2 y2 (src_spec hsrc)
      · rename_i n cs hsrc
        have hsrc := src_spec hsrc
        split at h
        · cases h
        rename_i bytes hby
        split at h
        · cases h
        rename_i zz hz
        rw [cond_some] at h
        obtain ⟨hc, h⟩ := h
        simp only [Bool.and_eq_true, Nat.beq_eq, Nat.blt_eq, Nat.ble_eq] at hc
        obtain ⟨c1, c2, c3, c4⟩ := hc
        have e : (cellsL zz).length = zz.cells.size := by rw [cellsL_eq]; simp
        rw [e] at c1
        cases hcap : Nat.blt c UNK with
        | true =>
          rw [hcap] at h
          simp only [cond_true] at h
          rw [Nat.blt_eq] at hcap
          cases hfit : Nat.ble (l + Nat.succ n) c with
          | true =>
            rw [hfit] at h
            simp only [cond_true] at h
            rw [Nat.ble_eq] at hfit
            split at h
            · rename_i b i
              split at h
              · cases h
              rename_i M'' hM
              simp only [Option.some.injEq, Prod.mk.injEq] at h
              obtain ⟨rfl, rfl⟩ := h
              obtain ⟨s1, s2, s3⟩ := M.setN_spec hM
              rw [s1]
              exact opv_appendX hop rfl x1 y1 hu hs hxu hni x2 y2 hsrc hcap hfit (Nat.succ_pos n) s3 s2
            · cases h
          | false =>
            rw [hfit] at h
            simp only [cond_false] at h
            split at h
            · cases h
            rename_i l' os hos
            rw [cond_some] at h
            obtain ⟨hl, h⟩ := h
            have hl := Nat.eq_of_beq_eq_true hl
            subst hl
            simp only [Option.some.injEq, Prod.mk.injEq] at h
            obtain ⟨rfl, rfl⟩ := h
            rw [M.alloc_spec]
            have hfit' : c < l' + Nat.succ n := by
              rcases Nat.lt_or_ge c (l' + Nat.succ n) with h | h
              · exact h
              · rw [show Nat.ble (l' + Nat.succ n) c = true from by rw [Nat.ble_eq]; exact h] at hfit; cases hfit
            exact opv_appendG hop rfl x1 y1 hu hs hby hxu hni hz c1 c2 x2 y2 (src_spec hos) ⟨q, rfl⟩ hsrc hcap hfit' c3 (Nat.le_trans c4 (by decide))
        | false =>
          rw [hcap] at h
          simp only [cond_false] at h
          split at h
          · rename_i b
            split at h
            · cases h
            rename_i B hB
            rw [cond_some] at h
            obtain ⟨hc, h⟩ := h
            simp only [Bool.and_eq_true, Nat.beq_eq, Nat.ble_eq] at hc
            obtain ⟨k1, k2, k3, k4, k5⟩ := hc
            simp only [Option.some.injEq, Prod.mk.injEq] at h
            obtain ⟨rfl, rfl⟩ := h
            have hcs : cs ≠ [] := by
              rintro rfl
              have := hsrc.length
              simp only [List.length_nil] at this
              have h0 : 0 < Nat.succ n * size := Nat.mul_pos (Nat.succ_pos n) c3
              omega
            have hg := Mem.grow_spec (M.kill b) B k5 cs el size hcs
            rw [M.kill_spec] at hg
            rw [hg]
            have hnext : (M.kill b).next = M.next := by unfold Mem.kill; rw [Mem.put_next]
            have hcu : UNK ≤ c := by
              rcases Nat.lt_or_ge c UNK with h | h
              · rw [show Nat.blt c UNK = true from by rw [Nat.blt_eq]; exact h] at hcap; cases hcap
              · exact h
            exact opv_appendU hop rfl x1 y1 hu hs hby hxu hni hz c1 c2 x2 y2 (RB.take_spec hB k5) hsrc hcu (M.abs_m hB) k1 rfl k2 k3 k4 rfl c3 (Nat.le_trans c4 (by decide))
          · cases h
    · cases h
  · cases h
noncomputable def eAppendZ (P : Program) (ρ : Env) (M : Mem) (sT xT : TypeId) (x y : Operand) : OR := match okv P.globals.size ρ x with
  | some (.slice q l c) => (match okv P.globals.size ρ y with
    | some (.int kk (.ofNat n)) => (match P.underlying sT with
      | some (.slice el) => (match P.underlying xT with
        | some (.int k) => (match (P.info? el).map (·.size) with
          | none => none
          | some size => (match (P.info? el).map (·.bytes) with
            | none => none
            | some bytes => (match (P.info? el).bind (·.zero) with
              | none => none
              | some z => (match src M size (.slice q l c) with
                | none => none
                | some (l', os) => bif Nat.beq l' l && (Nat.beq (cellsL z).length size && (plains (cellsL z) && (Nat.blt 0 bytes && (Nat.blt 0 n && (Nat.blt c UNK && (Nat.blt c (l + n) && (Nat.blt 0 size && Nat.ble ((2 * (l + n) + 768) * bytes) 281474976710656))))))) then
                    some (.slice (some ⟨M.next, 0, none⟩) (l + n) UNK, M.alloc (os ++ zeros (cellsL z) n) el size) else none))))
        | _ => none)
      | _ => none)
    | _ => none)
  | _ => none
theorem eAppendZ_spec {sT xT : TypeId} (hop : o.op = .call { callee := .builtin .append, args := #[x, y], argTypes := #[sT, xT] }) (h : eAppendZ P ρ M sT xT x y = some (v, M')) : OpV P o ρ M.abs v M'.abs := by
  unfold eAppendZ at h
  split at h
  · rename_i q l c hx
    obtain ⟨x1, x2⟩ := okv_spec hx
    split at h
    · rename_i kk n hy
      obtain ⟨y1, y2⟩ := okv_spec hy
      split at h
      · rename_i el hu
        split at h
        · rename_i k hxu
          split at h
          · cases h
          rename_i size hs
          split at h
          · cases h
          rename_i bytes hby
          split at h
          · cases h
          rename_i zz hz
          split at h
          · cases h
          rename_i l' os hos
          rw [cond_some] at h
          obtain ⟨hc, h⟩ := h
          simp only [Bool.and_eq_true, Nat.beq_eq, Nat.blt_eq, Nat.ble_eq] at hc
          obtain ⟨c0, c1, c2, c3, c4, c5, c6, c7, c8⟩ := hc
          subst c0
          have e : (cellsL zz).length = zz.cells.size := by rw [cellsL_eq]; simp
          simp only [Option.some.injEq, Prod.mk.injEq] at h
          obtain ⟨rfl, rfl⟩ := h
          rw [M.alloc_spec, cellsL_eq]
          exact opv_appendZ hop rfl x1 y1 hu hs hby hxu hz (by rw [← e]; exact c1) (by rw [← cellsL_eq]; exact c2) c3 c4 x2 y2 (src_spec hos) ⟨q, rfl⟩ c5 c6 c7 (Nat.le_trans c8 (by decide))
        · cases h
      · cases h
    · cases h
  · cases h
noncomputable def eCopy (P : Program) (ρ : Env) (M : Mem) (sT xT : TypeId) (x y : Operand) : OR := match okv P.globals.size ρ x with
  | some (.slice (some ⟨b, i, none⟩) l c) => (match okv P.globals.size ρ y with
    | none => none
    | some xv => (match P.underlying sT with
      | some (.slice el) => (match (P.info? el).map (·.size) with
        | none => none
        | some size => (match src M size xv with
          | none => none
          | some (n, cs) => (match M.setN b i (cs.take (min n l * size)) with
            | none => none
            | some M' => some (.int .i64 (.ofNat (min n l)), M'))))
      | _ => none))
  | _ => none
theorem eCopy_spec {sT xT : TypeId} (hop : o.op = .call { callee := .builtin .copy, args := #[x, y], argTypes := #[sT, xT] }) (h : eCopy P ρ M sT xT x y = some (v, M')) : OpV P o ρ M.abs v M'.abs := by
  unfold eCopy at h
  split at h
  · rename_i b i l c hx
    obtain ⟨x1, x2⟩ := okv_spec hx
    split at h
    · cases h
    rename_i xv hy
    obtain ⟨y1, y2⟩ := okv_spec hy
    split at h
    · rename_i el hu
      split at h
      · cases h
      rename_i size hs
      split at h
      · cases h
      rename_i n cs hsrc
      split at h
      · cases h
      rename_i M'' hM
      simp only [Option.some.injEq, Prod.mk.injEq] at h
      obtain ⟨rfl, rfl⟩ := h
      obtain ⟨s1, s2, s3⟩ := M.setN_spec hM
      rw [s1]
      exact opv_copy hop rfl x1 y1 hu hs x2 y2 (src_spec hsrc) rfl s3 s2
    · cases h
  · cases h
noncomputable def eLen (P : Program) (ρ : Env) (M : Mem) (at' : Array TypeId) (x : Operand) : OR := match at'[0]? with
  | none => none
  | some q => (match P.underlying q with
    | some .string => (match okv P.globals.size ρ x with
      | some (.string ⟨⟨l⟩⟩) => some (.int .i64 (.ofNat l.length), M)
      | some (.map (some i)) => (match FT.len (.map (some i)) with
        | some v => some (v, M)
        | none => none)
      | _ => none)
    | some (.slice _) => (match okv P.globals.size ρ x with
      | some (.slice _ l _) => some (.int .i64 (.ofNat l), M)
      | _ => none)
    | some (.array l _) => some (.int .i64 (.ofNat l), M)
    | _ => none)
theorem eLen_spec {at' : Array TypeId} (hop : o.op = .call { callee := .builtin .len, args := #[x], argTypes := at' }) (h : eLen P ρ M at' x = some (v, M')) : OpV P o ρ M.abs v M'.abs := by
  unfold eLen at h
  split at h
  · cases h
  rename_i q hat
  split at h
  · rename_i hu
    split at h
    · rename_i l hx
      obtain ⟨x1, x2⟩ := okv_spec hx
      simp only [Option.some.injEq, Prod.mk.injEq] at h
      obtain ⟨rfl, rfl⟩ := h
      exact opv_lenS hop hat x1 hu x2
    · rename_i i hx
      obtain ⟨x1, x2⟩ := okv_spec hx
      split at h
      · rename_i r hr
        simp only [Option.some.injEq, Prod.mk.injEq] at h
        obtain ⟨rfl, rfl⟩ := h
        refine opv_den ?_
        obtain ⟨l, h1, h2⟩ := FTok.len _ _ hr
        have e1 : Env.eval (fun t => den (ρ t)) x = .string ⟨⟨l⟩⟩ := by rw [den_eval x1, x2, h1]
        rw [h2]
        exact opv_lenS hop hat x1 hu e1
      · cases h
    · cases h
  · rename_i e hu
    split at h
    · rename_i a l c hx
      obtain ⟨x1, x2⟩ := okv_spec hx
      simp only [Option.some.injEq, Prod.mk.injEq] at h
      obtain ⟨rfl, rfl⟩ := h
      exact opv_len hop hat x1 hu x2
    · cases h
  · rename_i l e hu
    simp only [Option.some.injEq, Prod.mk.injEq] at h
    obtain ⟨rfl, rfl⟩ := h
    exact opv_lenA hop hat hu
  · cases h
theorem opv_cap {ρ : Env} {aw : AW} {q : Option Addr} {l c : Nat} {T el : TypeId} {at' : Array TypeId} (hop : o.op = .call { callee := .builtin .cap, args := #[x], argTypes := at' }) (hat : at'[0]? = some T) (hx : okOpd P.globals.size x = true)
    (hu : P.underlying T = some (.slice el)) (h1 : ρ.eval x = .slice q l c) (hc : c < UNK) : OpV P o ρ aw (.int .i64 c) aw :=
  opv_pure fun s f w hf => by
    have e1 := hf x hx; rw [h1] at e1
    have : ∃ q', f x = .slice q' l c := by
      generalize f x = u at e1
      cases e1 with
      | nilslice => exact ⟨_, rfl⟩
      | slice hl hcc h => rw [hcc hc]; exact ⟨_, rfl⟩
    obtain ⟨q', hq⟩ := this
    refine ⟨.int .i64 c, ?_, .int _ _⟩
    simp [execOp, hop, resolve, invoke, builtin, Builtin.cap_, hq, hat, run_underlying hu, goInt]
noncomputable def eCap (P : Program) (ρ : Env) (M : Mem) (at' : Array TypeId) (x : Operand) : OR := match at'[0]? with
  | none => none
  | some q => (match P.underlying q with
    | some (.slice _) => (match okv P.globals.size ρ x with
      | some (.slice _ _ c) => bif Nat.blt c UNK then some (.int .i64 (.ofNat c), M) else none
      | _ => none)
    | _ => none)
theorem eCap_spec {at' : Array TypeId} (hop : o.op = .call { callee := .builtin .cap, args := #[x], argTypes := at' }) (h : eCap P ρ M at' x = some (v, M')) : OpV P o ρ M.abs v M'.abs := by
  unfold eCap at h
  split at h
  · cases h
  rename_i q hat
  split at h
  · rename_i e hu
    split at h
    · rename_i a l c hx
      obtain ⟨x1, x2⟩ := okv_spec hx
      rw [cond_some] at h
      obtain ⟨hc, h⟩ := h
      rw [Nat.blt_eq] at hc
      simp only [Option.some.injEq, Prod.mk.injEq] at h
      obtain ⟨rfl, rfl⟩ := h
      exact opv_cap hop hat x1 hu x2 hc
    · cases h
  · cases h
noncomputable def eMM (P : Program) (ρ : Env) (M : Mem) (mx : Bool) (x y : Operand) : OR := match okv P.globals.size ρ x with
  | some (.int k m) => (match okv P.globals.size ρ y with
    | some (.int k' n) => bif decide (k = k') then some (.int k (bif mx then max m n else min m n), M) else none
    | _ => none)
  | _ => none
theorem eMM_spec {mx : Bool} {at' : Array TypeId} (hop : o.op = .call { callee := .builtin (if mx then .max else .min), args := #[x, y], argTypes := at' }) (h : eMM P ρ M mx x y = some (v, M')) : OpV P o ρ M.abs v M'.abs := by
  unfold eMM at h
  split at h
  · rename_i k m hx
    obtain ⟨x1, x2⟩ := okv_spec hx
    split at h
    · rename_i k' n hy
      obtain ⟨y1, y2⟩ := okv_spec hy
      rw [cond_some] at h
      obtain ⟨hk, h⟩ := h
      have hk := of_decide_eq_true hk
      subst hk
      simp only [Option.some.injEq, Prod.mk.injEq] at h
      obtain ⟨rfl, rfl⟩ := h
      cases mx
      · exact opv_min hop x1 y1 x2 y2
      · exact opv_max hop x1 y1 x2 y2
    · cases h
  · cases h
noncomputable def eAssert (P : Program) (ρ : Env) (M : Mem) (x : Operand) (a : TypeId) (ok : Bool) : OR := match P.underlying a with
  | none => none
  | some d => bif isIface d then none else (match okv P.globals.size ρ x with
    | some (.iface q u) => bif Nat.beq q a then some ((bif ok then .tuple ⟨[u, .bool true]⟩ else u), M) else (match ok, (P.info? a).bind (·.zero) with
      | true, some z => bif plain z then some (.tuple ⟨[z, .bool false]⟩, M) else none
      | _, _ => none)
    | some .nilIface => (match ok, (P.info? a).bind (·.zero) with
      | true, some z => bif plain z then some (.tuple ⟨[z, .bool false]⟩, M) else none
      | _, _ => none)
    | _ => none)
theorem eAssert_spec {a : TypeId} {ok : Bool} (hop : o.op = .typeAssert x xt a ok) (h : eAssert P ρ M x a ok = some (v, M')) : OpV P o ρ M.abs v M'.abs := by
  unfold eAssert at h
  split at h
  · cases h
  rename_i d hu
  cases hd : isIface d with
  | true => rw [hd] at h; cases h
  | false =>
    rw [hd] at h
    simp only [cond_false] at h
    split at h
    · rename_i q u hx
      obtain ⟨x1, x2⟩ := okv_spec hx
      cases hq : Nat.beq q a with
      | true =>
        rw [hq] at h
        have hq := Nat.eq_of_beq_eq_true hq
        subst hq
        simp only [cond_true, Option.some.injEq, Prod.mk.injEq] at h
        obtain ⟨rfl, rfl⟩ := h
        have := opv_assertYes (aw := M.abs) (ok := ok) hop x1 hu hd x2
        cases ok <;> exact this
      | false =>
        rw [hq] at h
        simp only [cond_false] at h
        split at h
        · rename_i zz hz
          rw [cond_some] at h
          obtain ⟨hp, h⟩ := h
          simp only [Option.some.injEq, Prod.mk.injEq] at h
          obtain ⟨rfl, rfl⟩ := h
          exact opv_assertNo hop x1 hu hd hz hp x2 (fun e => by rw [e, Nat.beq_refl] at hq; cases hq)
        · cases h
    · rename_i hx
      obtain ⟨x1, x2⟩ := okv_spec hx
      split at h
      · rename_i zz hz
        rw [cond_some] at h
        obtain ⟨hp, h⟩ := h
        simp only [Option.some.injEq, Prod.mk.injEq] at h
        obtain ⟨rfl, rfl⟩ := h
        exact opv_assertNil hop x1 hu hd hz hp x2
      · cases h
    · cases h
noncomputable def eUsd (P : Program) (ρ : Env) (M : Mem) (x : Operand) : OR := match okv P.globals.size ρ x with
  | some (.slice (some ⟨b, i, none⟩) l c) => bif Nat.blt 0 l then some (.pointer (some ⟨b, i, none⟩), M) else none
  | some (.slice none 0 0) => some (.pointer none, M)
  | _ => none
theorem eUsd_spec {at' : Array TypeId} (hop : o.op = .call { callee := .builtin .unsafeSliceData, args := #[x], argTypes := at' }) (h : eUsd P ρ M x = some (v, M')) : OpV P o ρ M.abs v M'.abs := by
  unfold eUsd at h
  split at h
  · rename_i b i l c hx
    obtain ⟨x1, x2⟩ := okv_spec hx
    rw [cond_some] at h
    obtain ⟨hl, h⟩ := h
    rw [Nat.blt_eq] at hl
    simp only [Option.some.injEq, Prod.mk.injEq] at h
    obtain ⟨rfl, rfl⟩ := h
    exact ov_usd hop x1 x2 (.inl ⟨_, _, _, _, rfl, hl⟩) rfl
  · rename_i hx
    obtain ⟨x1, x2⟩ := okv_spec hx
    simp only [Option.some.injEq, Prod.mk.injEq] at h
    obtain ⟨rfl, rfl⟩ := h
    exact ov_usd hop x1 x2 (.inr rfl) rfl
  · cases h
noncomputable def eUstr (P : Program) (ρ : Env) (M : Mem) (pt : TypeId) (x y : Operand) : OR := match okv P.globals.size ρ x with
  | some p => (match okv P.globals.size ρ y with
    | some (.int .i64 (.ofNat n)) => (match P.underlying pt with
      | some (.pointer E) => bif Nat.beq (P.cellsOf E) 1 then (match n with
        | 0 => (match p with
          | .pointer q => some (.string ⟨⟨[]⟩⟩, M)
          | _ => none)
        | Nat.succ m => (match p with
          | .pointer (some ⟨b, 0, none⟩) => (match M.getN b 0 (Nat.succ m) with
            | none => none
            | some cs => (match unB cs with
              | none => none
              | some l => (match M.at b with
                | none => none
                | some B => bif B.rw && (Nat.beq B.elem E && (Nat.beq l.length (Nat.succ m) && Nat.blt (Nat.succ m) 4611686018427387904)) then some (.string ⟨⟨l⟩⟩, M.kill b) else none)))
          | _ => none)) else none
      | _ => none)
    | _ => none)
  | none => none
theorem eUstr_spec {pt it : TypeId} (hop : o.op = .call { callee := .builtin .unsafeString, args := #[x, y], argTypes := #[pt, it] }) (h : eUstr P ρ M pt x y = some (v, M')) : OpV P o ρ M.abs v M'.abs := by
  unfold eUstr at h
  split at h
  · rename_i p hx
    obtain ⟨x1, x2⟩ := okv_spec hx
    split at h
    · rename_i n hy
      obtain ⟨y1, y2⟩ := okv_spec hy
      split at h
      · rename_i E hu
        rw [cond_some] at h
        obtain ⟨hE, h⟩ := h
        have hE := Nat.eq_of_beq_eq_true hE
        split at h
        · split at h
          · rename_i q
            simp only [Option.some.injEq, Prod.mk.injEq] at h
            obtain ⟨rfl, rfl⟩ := h
            exact ov_ustr hop x1 y1 hu hE x2 y2 (.inl ⟨rfl, ⟨_, rfl⟩, rfl, rfl⟩)
          · cases h
        · rename_i m
          split at h
          · rename_i b
            split at h
            · cases h
            rename_i cs hcs
            split at h
            · cases h
            rename_i l hl
            split at h
            · cases h
            rename_i B hB
            rw [cond_some] at h
            obtain ⟨hc, h⟩ := h
            simp only [Bool.and_eq_true, Nat.beq_eq, Nat.blt_eq] at hc
            obtain ⟨c1, c2, c3, c4⟩ := hc
            simp only [Option.some.injEq, Prod.mk.injEq] at h
            obtain ⟨rfl, rfl⟩ := h
            have hg := M.getN_spec hcs
            rw [unB_spec hl, ← c3] at hg
            refine ov_ustr hop x1 y1 hu hE x2 y2 (.inr ⟨l, b, B.abs, ?_, ?_, by omega, rfl, hg, M.abs_m hB, c1, c2, rfl, M.kill_spec b⟩)
            · rintro rfl; simp at c3
            · show Int.ofNat (Nat.succ m) = _
              rw [← c3]; rfl
          · cases h
      · cases h
    · cases h
  · cases h
noncomputable def eOp (P : Program) (ρ : Env) (M : Mem) : Op → OR
  | .move x => eMove P ρ M x
  | .assign x => eMove P ρ M x
  | .pick a b c => ePick P ρ M a b c
  | .alloc t => eAlloc P M t
  | .box t x => eBox P ρ M t x
  | .build t ps => eBuild P ρ M t ps
  | .buildSlice t n ps => eBuildS P ρ M t n ps
  | .load t x => eLoad P ρ M t x
  | .store t x y => eStore P ρ M t x y
  | .nilCheck x => eNil P ρ M x
  | .binOp op xt x y _ => eBin P ρ M op xt x y
  | .unOp op _ x => eUn P ρ M op x
  | .convert s d x => eConv P ρ M s d x
  | .makeInterface xt x => eMkI P ρ M xt x
  | .makeFunc fn a c => eMkF P ρ M fn a c
  | .makeSlice t x y => eMake P ρ M t x y
  | .slice t x l h m => eSlice P ρ M t x l h m
  | .fieldAddr t x n => eFldA P ρ M t x n
  | .field t x n => eField P ρ M t x n
  | .indexAddr t x y => eIxA P ρ M t x y
  | .index t x y => eIx P ρ M t x y
  | .typeAssert x _ a ok => eAssert P ρ M x a ok
  | .extract x i => eExtract P ρ M x i
  | .call ⟨.builtin b, ⟨xs⟩, ⟨ts⟩⟩ => (match b with
    | .len => (match xs with | [x] => eLen P ρ M ⟨ts⟩ x | _ => none)
    | .unsafeSliceData => (match xs with | [x] => eUsd P ρ M x | _ => none)
    | .unsafeString => (match xs with | [x, y] => (match ts with | [pt, _] => eUstr P ρ M pt x y | _ => none) | _ => none)
    | .cap => (match xs with | [x] => eCap P ρ M ⟨ts⟩ x | _ => none)
    | .max => (match xs with | [x, y] => eMM P ρ M true x y | _ => none)
    | .min => (match xs with | [x, y] => eMM P ρ M false x y | _ => none)
    | .append => (match xs with | [x, y] => (match ts with | [sT, xT] => (match eAppend P ρ M sT xT x y with | some r => some r | none => eAppendZ P ρ M sT xT x y) | _ => none) | _ => none)
    | .copy => (match xs with | [x, y] => (match ts with | [sT, xT] => eCopy P ρ M sT xT x y | _ => none) | _ => none)
    | _ => none)
  | _ => none
theorem eOp_spec (h : eOp P ρ M o.op = some (v, M')) : OpV P o ρ M.abs v M'.abs := by
  generalize hop : o.op = p at h
  unfold eOp at h
  split at h
  · exact eMove_spec (.inl hop) h
  · exact eMove_spec (.inr hop) h
  · exact ePick_spec hop h
  · exact eAlloc_spec hop h
  · exact eBox_spec hop h
  · exact eBuild_spec hop h
  · exact eBuildS_spec hop h
  · exact eLoad_spec hop h
  · exact eStore_spec hop h
  · exact eNil_spec hop h
  · exact eBin_spec hop h
  · exact eUn_spec hop h
  · exact eConv_spec hop h
  · exact eMkI_spec hop h
  · exact eMkF_spec hop h
  · exact eMake_spec hop h
  · exact eSlice_spec hop h
  · exact eFldA_spec hop h
  · exact eField_spec hop h
  · exact eIxA_spec hop h
  · exact eIx_spec hop h
  · exact eAssert_spec hop h
  · exact eExtract_spec hop h
  · split at h
    · split at h
      · exact eLen_spec hop h
      · cases h
    · split at h
      · exact eUsd_spec hop h
      · cases h
    · split at h
      · split at h
        · exact eUstr_spec hop h
        · cases h
      · cases h
    · split at h
      · exact eCap_spec hop h
      · cases h
    · split at h
      · exact eMM_spec (mx := true) hop h
      · cases h
    · split at h
      · exact eMM_spec (mx := false) hop h
      · cases h
    · split at h
      · split at h
        · split at h
          · rename_i r hr
            simp only [Option.some.injEq] at h
            subst h
            exact eAppend_spec hop hr
          · exact eAppendZ_spec hop h
        · cases h
      · cases h
    · split at h
      · split at h
        · exact eCopy_spec hop h
        · cases h
      · cases h
    · cases h
  · cases h
end
end Go.Ri
set_option linter.unusedSimpArgs false
set_option linter.unusedVariables false
set_option linter.unusedSectionVars false
namespace Go.Ri
open Go Go.Am Go.RowKit
variable [SymE]
variable [FT] [FTok]
section
variable {P : Program} {ρ ρ' : Env} {M M' : Mem} {o : Oper} {v : Value}
theorem okv_congr {G : Nat} {x : Operand} (h : ∀ t, x = .tmp t → ρ' t = ρ t) : okv G ρ' x = okv G ρ x := by
  cases x with
  | tmp t => simp only [okv, h t rfl]
  | const _ => rfl
  | global _ => rfl
  | func _ => rfl
def AgreeX (G : Nat) (ρ ρ' : Env) (l : List Operand) : Prop := ∀ x ∈ l, okv G ρ' x = okv G ρ x
theorem okvs_congr {G : Nat} : ∀ {l : List Operand}, AgreeX G ρ ρ' l → okvs G ρ' l = okvs G ρ l
  | [], _ => rfl
  | x :: l, h => by
    show (match okv G ρ' x with
      | none => none
      | some v => match okvs G ρ' l with
        | none => none
        | some l => some (v :: l)) = (match okv G ρ x with
      | none => none
      | some v => match okvs G ρ l with
        | none => none
        | some l => some (v :: l))
    rw [h x (by simp), okvs_congr fun y hy => h y (by simp [hy])]
theorem okps_congr {G : Nat} : ∀ {l : List (Nat × Operand)}, AgreeX G ρ ρ' (l.map (·.2)) → okps G ρ' l = okps G ρ l
  | [], _ => rfl
  | x :: l, h => by
    show (match okv G ρ' x.2 with
      | none => none
      | some v => (match okps G ρ' l with
        | none => none
        | some l => some ((x.1, v) :: l))) = (match okv G ρ x.2 with
      | none => none
      | some v => (match okps G ρ l with
        | none => none
        | some l => some ((x.1, v) :: l)))
    rw [h x.2 (by simp), okps_congr fun y hy => h y (List.mem_cons_of_mem _ hy)]
theorem bnd_congr {G d : Nat} {q : Option Operand} (h : AgreeX G ρ ρ' q.toArray.toList) : bnd G ρ' d q = bnd G ρ d q := by
  cases q with
  | none => rfl
  | some x => simp only [bnd]; rw [h x (by simp)]
theorem eOp_congr {op : Op} (h : AgreeX P.globals.size ρ ρ' op.operands.toList) : eOp P ρ' M op = eOp P ρ M op := by
  cases op with
  | move x => simp only [eOp, eMove, h x (by simp [Op.operands])]
  | assign x => simp only [eOp, eMove, h x (by simp [Op.operands])]
  | pick c a b => simp only [eOp, ePick, h c (by simp [Op.operands]), h a (by simp [Op.operands]), h b (by simp [Op.operands])]
  | alloc t => rfl
  | box t x => simp only [eOp, eBox, h x (by simp [Op.operands])]
  | build t ps => simp only [eOp, eBuild]; rw [okps_congr (by simpa [Op.operands] using h)]
  | buildSlice t n ps =>
    simp only [eOp]
    unfold eBuildS
    split
    · rfl
    · simp only [eBuildS1]; rw [okps_congr (by simpa [Op.operands] using h)]
  | load t x => simp only [eOp, eLoad, h x (by simp [Op.operands])]
  | store t x y => simp only [eOp, eStore, h x (by simp [Op.operands]), h y (by simp [Op.operands])]
  | nilCheck x => simp only [eOp, eNil, h x (by simp [Op.operands])]
  | binOp op xt x y yt => simp only [eOp, eBin, h x (by simp [Op.operands]), h y (by simp [Op.operands])]
  | unOp op xt x => simp only [eOp, eUn, h x (by simp [Op.operands])]
  | convert s d x => simp only [eOp, eConv, h x (by simp [Op.operands])]
  | makeInterface xt x => simp only [eOp, eMkI, h x (by simp [Op.operands])]
  | makeFunc fn a c =>
    simp only [eOp, eMkF]
    rw [okvs_congr (ρ := ρ) (ρ' := ρ') (l := a.toList) fun x hx => h x (by simp [Op.operands]; exact .inl (by simpa using hx)), okvs_congr (ρ := ρ) (ρ' := ρ') (l := c.toList) fun x hx => h x (by simp [Op.operands]; exact .inr (by simpa using hx))]
  | makeSlice t x y => simp only [eOp, eMake, h x (by simp [Op.operands]), h y (by simp [Op.operands])]
  | slice t x l hi m =>
    have hx := h x (by simp [Op.operands])
    have hl : ∀ d, bnd P.globals.size ρ' d l = bnd P.globals.size ρ d l := fun d => bnd_congr fun y hy => h y (by simp [Op.operands]; simp at hy; exact .inr (.inl hy))
    have hh : ∀ d, bnd P.globals.size ρ' d hi = bnd P.globals.size ρ d hi := fun d => bnd_congr fun y hy => h y (by simp [Op.operands]; simp at hy; exact .inr (.inr (.inl hy)))
    have hm : ∀ d, bnd P.globals.size ρ' d m = bnd P.globals.size ρ d m := fun d => bnd_congr fun y hy => h y (by simp [Op.operands]; simp at hy; exact .inr (.inr (.inr hy)))
    cases hi with
    | none =>
      cases m with
      | none => simp only [eOp, eSlice, hx, hl, hh]
      | some m => simp only [eOp, eSlice, hx, hl, hh]
    | some hi =>
      cases m with
      | none => simp only [eOp, eSlice, hx, hl, hh]
      | some m => simp only [eOp, eSlice, hx, hl, hh, hm]
  | fieldAddr t x n => simp only [eOp, eFldA, h x (by simp [Op.operands])]
  | field t x n => simp only [eOp, eField, h x (by simp [Op.operands])]
  | indexAddr t x y => simp only [eOp, eIxA, h x (by simp [Op.operands]), h y (by simp [Op.operands])]
  | index t x y => simp only [eOp, eIx, h x (by simp [Op.operands]), h y (by simp [Op.operands])]
  | typeAssert x xt a ok => simp only [eOp, eAssert, h x (by simp [Op.operands])]
  | extract x i => simp only [eOp, eExtract, h x (by simp [Op.operands])]
  | call c =>
    obtain ⟨cal, ⟨xs⟩, ⟨ts⟩⟩ := c
    cases cal with
    | builtin b =>
      have hx : ∀ x ∈ xs, okv P.globals.size ρ' x = okv P.globals.size ρ x := fun x hx => h x (by simp [Op.operands, Call.operands]; simpa using hx)
      cases b with
      | len =>
        simp only [eOp]
        split
        · rename_i a; simp only [eLen, hx a (by simp)]
        · rfl
      | unsafeSliceData =>
        simp only [eOp]
        split
        · rename_i a; simp only [eUsd, hx a (by simp)]
        · rfl
      | unsafeString =>
        simp only [eOp]
        split
        · split
          · simp only [eUstr, hx _ (List.mem_cons_self ..), hx _ (List.mem_cons_of_mem _ (List.mem_cons_self ..))]
          · rfl
        · rfl
      | cap =>
        simp only [eOp]
        split
        · rename_i a; simp only [eCap, hx a (by simp)]
        · rfl
      | max =>
        simp only [eOp]
        split
        · simp only [eMM, hx _ (List.mem_cons_self ..), hx _ (List.mem_cons_of_mem _ (List.mem_cons_self ..))]
        · rfl
      | min =>
        simp only [eOp]
        split
        · simp only [eMM, hx _ (List.mem_cons_self ..), hx _ (List.mem_cons_of_mem _ (List.mem_cons_self ..))]
        · rfl
      | append =>
        simp only [eOp]
        split
        · split
          · simp only [eAppend, eAppendZ, hx _ (List.mem_cons_self ..), hx _ (List.mem_cons_of_mem _ (List.mem_cons_self ..))]
          · rfl
        · rfl
      | copy =>
        simp only [eOp]
        split
        · split
          · simp only [eCopy, hx _ (List.mem_cons_self ..), hx _ (List.mem_cons_of_mem _ (List.mem_cons_self ..))]
          · rfl
        · rfl
      | _ => rfl
    | value f => rfl
    | invoke r m => rfl
  | _ => rfl
theorem agr_x {ops : Array Oper} {o : Oper} {G : Nat} (h : Agr ops o ρ ρ') : AgreeX G ρ ρ' o.op.operands.toList := by
  intro x hx
  refine okv_congr fun t ht => h t ?_
  subst ht
  unfold looks
  rw [List.mem_append]
  exact .inl (List.mem_filterMap.2 ⟨_, hx, rfl⟩)
noncomputable def gd (ops : Array Oper) (ρ : Env) : Option (Nat × Bool) → Option Bool
  | none => some true
  | some (j, w) => (match dstOf ops j with
    | none => none
    | some t => (match ρ t with
      | .bool u => some (u == w)
      | .tuple ⟨[]⟩ => some false
      | _ => none))
theorem gd_spec {ops : Array Oper} {o : Oper} {b : Bool} (h : gd ops ρ o.guard = some b) (h' : Agr ops o ρ ρ') : wants ops o ρ' b := by
  unfold wants
  cases hg : o.guard with
  | none => rw [hg] at h; simp only [gd, Option.some.injEq] at h; exact h.symm
  | some p =>
    obtain ⟨j, w⟩ := p
    rw [hg] at h
    simp only [gd] at h
    cases hd : dstOf ops j with
    | none => rw [hd] at h; cases h
    | some t =>
      rw [hd] at h
      simp only at h
      have e : ρ' t = ρ t := h' t (by
        unfold looks
        rw [List.mem_append]
        refine .inr ?_
        rw [hg]; simp [hd])
      refine ⟨t, hd, ?_⟩
      rw [e]
      split at h
      · rename_i u hu
        simp only [Option.some.injEq] at h
        exact .inl ⟨u, hu, h.symm⟩
      · rename_i hu
        simp only [Option.some.injEq] at h
        exact .inr ⟨hu, h.symm⟩
      · cases h
theorem Agr.refl {ops : Array Oper} {o : Oper} : Agr ops o ρ ρ := fun _ _ => rfl
noncomputable def fnOk (P : Program) (g : FuncId) : Bool := match P.funcs[g]? with
  | some fn => (match fn.body with
    | some _ => !(fn.name == "runtime.NumGoroutine")
    | none => false)
  | none => false
theorem fnOk_spec {g : FuncId} (h : fnOk P g = true) : ∃ fn c, P.funcs[g]? = some fn ∧ (fn.name == "runtime.NumGoroutine") = false ∧ fn.body = some c := by
  unfold fnOk at h
  split at h
  · rename_i fn hf
    split at h
    · rename_i c hb
      exact ⟨fn, c, hf, by simpa using h, hb⟩
    · cases h
  · cases h
noncomputable def calls (P : Program) (ρ : Env) (z : Operand) (xs : List Operand) : Option (FuncId × List Value) := match okv P.globals.size ρ z with
  | some (.func (.func g) ⟨fa⟩ ⟨ca⟩) => (match okvs P.globals.size ρ xs with
    | none => none
    | some l => bif fnOk P g then some (g, fa ++ l ++ ca) else none)
  | _ => none
theorem calls_spec {z : Operand} {xs : List Operand} {at' : Array TypeId} {g : FuncId} {l : List Value} (hop : o.op = .call { callee := .value z, args := ⟨xs⟩, argTypes := at' }) (h : calls P ρ z xs = some (g, l)) : OpC P o ρ g l := by
  unfold calls at h
  split at h
  · rename_i g' fa ca hz
    split at h
    · cases h
    rename_i r hr
    rw [cond_some] at h
    obtain ⟨hf, h⟩ := h
    simp only [Option.some.injEq, Prod.mk.injEq] at h
    obtain ⟨rfl, rfl⟩ := h
    obtain ⟨z1, z2⟩ := okv_spec hz
    obtain ⟨r1, r2⟩ := okvs_spec hr
    obtain ⟨fn, c, f1, f2, f3⟩ := fnOk_spec hf
    exact opc_dyn hop z1 (by simpa using r1) z2 f1 f2 f3 (by simp [r2])
  · cases h
theorem calls_congr {z : Operand} {xs : List Operand} (h : AgreeX P.globals.size ρ ρ' (z :: xs)) : calls P ρ' z xs = calls P ρ z xs := by
  simp only [calls]
  rw [h z (by simp), okvs_congr (ρ := ρ) (ρ' := ρ') (l := xs) fun y hy => h y (by simp [hy])]
inductive Ext where
  | idx
  | same
abbrev Exts := FuncId → Option Ext
def ExtOk (P : Program) (X : Exts) : Prop := ∀ g, (X g = some .idx → IsExt P g Extern.BytealgIndexByte.indexByte) ∧ (X g = some .same → IsExt P g Extern.AbiNoEscape.same)
noncomputable def extR (P : Program) (X : Exts) (ρ : Env) (z : Operand) (xs : List Operand) : Option Value := match z with
  | .func g => (match X g with
    | some .idx => (match okvs P.globals.size ρ xs with
      | some [.string a, .int .u8 c] => some (.int .i64 (firstIdx a c.toNat.toUInt8))
      | _ => none)
    | some .same => (match okvs P.globals.size ρ xs with
      | some [v] => some v
      | _ => none)
    | none => none)
  | _ => none
theorem extR_spec {X : Exts} (hX : ExtOk P X) {z : Operand} {xs : List Operand} {at' : Array TypeId} {aw : AW} (hop : o.op = .call { callee := .value z, args := ⟨xs⟩, argTypes := at' }) (h : extR P X ρ z xs = some v) : OpV P o ρ aw v aw := by
  unfold extR at h
  split at h
  · rename_i g
    split at h
    · rename_i hg
      split at h
      · rename_i a c hxs
        obtain ⟨a1, a2⟩ := okvs_spec hxs
        simp only [Option.some.injEq] at h; subst h
        exact ov_idx hop a1 ((hX g).1 hg) a2
      · cases h
    · rename_i hg
      split at h
      · rename_i u hxs
        obtain ⟨a1, a2⟩ := okvs_spec hxs
        simp only [Option.some.injEq] at h; subst h
        exact ov_noEsc hop a1 ((hX g).2 hg) a2
      · cases h
    · cases h
  · cases h
theorem extR_congr {X : Exts} {z : Operand} {xs : List Operand} (h : AgreeX P.globals.size ρ ρ' (z :: xs)) : extR P X ρ' z xs = extR P X ρ z xs := by
  have hs : okvs P.globals.size ρ' xs = okvs P.globals.size ρ xs := okvs_congr fun y hy => h y (by simp [hy])
  unfold extR
  rw [hs]
noncomputable def defers (P : Program) (ρ : Env) (z : Operand) (xs : List Operand) : Option Deferred := match okv P.globals.size ρ z with
  | some (.func (.func g) ⟨fa⟩ ⟨ca⟩) => (match okvs P.globals.size ρ xs with
    | none => none
    | some l => some { target := .fn (.func g) ⟨ca⟩, args := ⟨fa ++ l⟩ })
  | _ => none
theorem defers_spec {z : Operand} {xs : List Operand} {at' : Array TypeId} {d : Deferred} (hop : o.op = .defer { callee := .value z, args := ⟨xs⟩, argTypes := at' }) (h : defers P ρ z xs = some d) : OpD P o ρ d := by
  unfold defers at h
  split at h
  · rename_i g' fa ca hz
    split at h
    · cases h
    rename_i r hr
    simp only [Option.some.injEq] at h
    subst h
    obtain ⟨z1, z2⟩ := okv_spec hz
    obtain ⟨r1, r2⟩ := okvs_spec hr
    have := opd_dyn (ρ := ρ) (P := P) hop z1 (by simpa using r1) z2
    rw [show (⟨fa ++ r⟩ : Array Value) = ⟨fa⟩ ++ (⟨xs⟩ : Array Operand).map ρ.eval by apply Array.ext'; simp [r2]]
    exact this
  · cases h
def quiet (P : Program) : Op → Bool
  | .move _ | .assign _ | .pick _ _ _ | .build _ _ | .load _ _ | .nilCheck _ | .binOp _ _ _ _ _ | .unOp _ _ _ | .makeInterface _ _ | .makeFunc _ _ _ | .slice _ _ _ _ _ | .fieldAddr _ _ _ | .field _ _ _ | .indexAddr _ _ _ | .index _ _ _
  | .typeAssert _ _ _ _ | .extract _ _ => true
  | .call ⟨.builtin .len, _, _⟩ | .call ⟨.builtin .max, _, _⟩ | .call ⟨.builtin .min, _, _⟩ => true
  | .convert _ d _ => (match P.underlying d with | some (.slice _) => false | _ => true)
  | _ => false
theorem quiet_spec {op : Op} (hq : quiet P op = true) (h : eOp P ρ M op = some (v, M')) : M' = M := by
  unfold quiet at hq
  split at hq
  case h_22 => cases hq
  case h_21 sd d x =>
    simp only [eOp] at h
    unfold eConv at h
    split at h
    · cases h
    split at h
    · cases h
    split at h
    · (repeat' split at h) <;> cases h <;> rfl
    · (repeat' split at h) <;> cases h <;> rfl
    · rename_i hd; rw [hd] at hq; cases hq
    · cases h
  case h_18 args ats => obtain ⟨xs⟩ := args; obtain ⟨ts⟩ := ats; simp only [eOp] at h; unfold eLen at h; (repeat' split at h) <;> cases h <;> rfl
  case h_19 args ats => obtain ⟨xs⟩ := args; obtain ⟨ts⟩ := ats; simp only [eOp] at h; unfold eMM at h; simp only [cond_eq_ite] at h; (repeat' split at h) <;> cases h <;> rfl
  case h_20 args ats => obtain ⟨xs⟩ := args; obtain ⟨ts⟩ := ats; simp only [eOp] at h; unfold eMM at h; simp only [cond_eq_ite] at h; (repeat' split at h) <;> cases h <;> rfl
  all_goals simp only [eOp] at h
  · unfold eMove at h; (repeat' split at h) <;> cases h <;> rfl
  · unfold eMove at h; (repeat' split at h) <;> cases h <;> rfl
  · unfold ePick at h; (repeat' split at h) <;> cases h <;> rfl
  · unfold eBuild at h; simp only [cond_eq_ite] at h; (repeat' split at h) <;> cases h <;> rfl
  · unfold eLoad at h; simp only [cond_eq_ite] at h; (repeat' split at h) <;> cases h <;> rfl
  · unfold eNil at h; (repeat' split at h) <;> cases h <;> rfl
  · unfold eBin at h; (repeat' split at h) <;> cases h <;> rfl
  · unfold eUn at h; (repeat' split at h) <;> cases h <;> rfl
  · unfold eMkI at h; (repeat' split at h) <;> cases h <;> rfl
  · unfold eMkF at h; (repeat' split at h) <;> cases h <;> rfl
  · unfold eSlice at h; simp only [cond_eq_ite] at h; (repeat' split at h) <;> cases h <;> rfl
  · unfold eFldA at h; simp only [cond_eq_ite] at h; (repeat' split at h) <;> cases h <;> rfl
  · unfold eField at h; simp only [cond_eq_ite] at h; (repeat' split at h) <;> cases h <;> rfl
  · unfold eIxA at h; simp only [cond_eq_ite] at h; (repeat' split at h) <;> cases h <;> rfl
  · unfold eIx at h; simp only [cond_eq_ite] at h; (repeat' split at h) <;> cases h <;> rfl
  · unfold eAssert at h; simp only [cond_eq_ite] at h; (repeat' split at h) <;> cases h <;> rfl
  · unfold eExtract at h; (repeat' split at h) <;> cases h <;> rfl
end
end Go.Ri
set_option linter.unusedSimpArgs false
set_option linter.unusedVariables false
set_option linter.unusedSectionVars false
namespace Go.Ri
open Go Go.Am Go.RowKit
noncomputable def lEqL (e : Value → Value → Bool) : List Value → List Value → Bool := List.rec (motive := fun _ => List Value → Bool) (fun l => List.rec (motive := fun _ => Bool) true (fun _ _ _ => false) l) fun a _ ih l => List.rec (motive := fun _ => Bool) false (fun b l _ => Bool.rec (motive := fun _ => Bool) false (ih l) (e a b)) l
def qBool (p : Bool) : Value → Bool
  | .bool q => p == q
  | _ => false
def qInt (k : IntKind) (m : Int) : Value → Bool
  | .int k' n => decide (k = k') && decide (m = n)
  | _ => false
def qStr (x : List UInt8) : Value → Bool
  | .string ⟨⟨y⟩⟩ => decide (x = y)
  | _ => false
def qAddr : Option Addr → Option Addr → Bool
  | none, none => true
  | some ⟨b1, o1, none⟩, some ⟨b2, o2, none⟩ => Nat.beq b1 b2 && Nat.beq o1 o2
  | _, _ => false
def qPtr (x : Option Addr) : Value → Bool
  | .pointer y => qAddr x y
  | _ => false
def qSl (x : Option Addr) (l c : Nat) : Value → Bool
  | .slice y l' c' => qAddr x y && (Nat.beq l l' && Nat.beq c c')
  | _ => false
def qMap (x : Option Nat) : Value → Bool
  | .map none => (match x with | none => true | some _ => false)
  | .map (some y) => (match x with | none => false | some x => Nat.beq x y)
  | _ => false
def qNF : Value → Bool
  | .nilFunc => true
  | _ => false
def qNI : Value → Bool
  | .nilIface => true
  | _ => false
noncomputable def qIf (e : Value → Value → Bool) (t : TypeId) (u : Value) : Value → Bool
  | .iface t' u' => Nat.beq t t' && e u u'
  | _ => false
noncomputable def qFn (e : Value → Value → Bool) (f : FuncId) (a c : List Value) : Value → Bool
  | .func (.func f') ⟨a'⟩ ⟨c'⟩ => Nat.beq f f' && (lEqL e a a' && lEqL e c c')
  | _ => false
noncomputable def qAgg (e : Value → Value → Bool) (a : List Value) : Value → Bool
  | .agg ⟨b⟩ => lEqL e a b
  | _ => false
noncomputable def qTup (e : Value → Value → Bool) (a : List Value) : Value → Bool
  | .tuple ⟨b⟩ => lEqL e a b
  | _ => false
noncomputable def vEq : Nat → Value → Value → Bool := Nat.rec (motive := fun _ => Value → Value → Bool) (fun _ _ => false) fun _ ih a b => match a with
  | .bool p => qBool p b
  | .int k m => qInt k m b
  | .string ⟨⟨x⟩⟩ => qStr x b
  | .pointer x => qPtr x b
  | .slice x l c => qSl x l c b
  | .map x => qMap x b
  | .nilFunc => qNF b
  | .nilIface => qNI b
  | .iface t u => qIf ih t u b
  | .func (.func f) ⟨a⟩ ⟨c⟩ => qFn ih f a c b
  | .agg ⟨a⟩ => qAgg ih a b
  | .tuple ⟨a⟩ => qTup ih a b
  | _ => false
theorem lEqL_spec {e : Value → Value → Bool} (he : ∀ a b, e a b = true → a = b) : ∀ {a b : List Value}, lEqL e a b = true → a = b
  | [], [], _ => rfl
  | [], _ :: _, h => by cases h
  | _ :: _, [], h => by cases h
  | x :: a, y :: b, h => by
    have h : Bool.rec (motive := fun _ => Bool) false (lEqL e a b) (e x y) = true := h
    cases hx : e x y with
    | false => rw [hx] at h; cases h
    | true =>
      rw [hx] at h
      rw [he x y hx, lEqL_spec he h]
theorem qAddr_spec {x y : Option Addr} (h : qAddr x y = true) : x = y := by
  unfold qAddr at h
  split at h
  · rfl
  · simp only [Bool.and_eq_true, Nat.beq_eq] at h
    rw [h.1, h.2]
  · cases h
theorem vEq_spec : ∀ (n : Nat) (a b : Value), vEq n a b = true → a = b
  | 0, a, b, h => by cases h
  | n + 1, a, b, h0 => by
    have ih := vEq_spec n
    have h : (match (generalizing := false) a with
      | .bool p => qBool p b
      | .int k m => qInt k m b
      | .string ⟨⟨x⟩⟩ => qStr x b
      | .pointer x => qPtr x b
      | .slice x l c => qSl x l c b
      | .map x => qMap x b
      | .nilFunc => qNF b
      | .nilIface => qNI b
      | .iface t u => qIf (vEq n) t u b
      | .func (.func f) ⟨a⟩ ⟨c⟩ => qFn (vEq n) f a c b
      | .agg ⟨a⟩ => qAgg (vEq n) a b
      | .tuple ⟨a⟩ => qTup (vEq n) a b
      | _ => false) = true := h0
    clear h0
    split at h
    · unfold qBool at h; split at h
      · rw [eq_of_beq h]
      · cases h
    · unfold qInt at h; split at h
      · simp only [Bool.and_eq_true, decide_eq_true_eq] at h; rw [h.1, h.2]
      · cases h
    · unfold qStr at h; split at h
      · rw [of_decide_eq_true h]
      · cases h
    · unfold qPtr at h; split at h
      · rw [qAddr_spec h]
      · cases h
    · unfold qSl at h; split at h
      · simp only [Bool.and_eq_true, Nat.beq_eq] at h; rw [qAddr_spec h.1, h.2.1, h.2.2]
      · cases h
    · unfold qMap at h; split at h
      · split at h
        · rfl
        · cases h
      · split at h
        · cases h
        · rw [Nat.eq_of_beq_eq_true h]
      · cases h
    · unfold qNF at h; split at h
      · rfl
      · cases h
    · unfold qNI at h; split at h
      · rfl
      · cases h
    · unfold qIf at h; split at h
      · simp only [Bool.and_eq_true, Nat.beq_eq] at h; rw [h.1, ih _ _ h.2]
      · cases h
    · unfold qFn at h; split at h
      · simp only [Bool.and_eq_true, Nat.beq_eq] at h; rw [h.1, lEqL_spec ih h.2.1, lEqL_spec ih h.2.2]
      · cases h
    · unfold qAgg at h; split at h
      · rw [lEqL_spec ih h]
      · cases h
    · unfold qTup at h; split at h
      · rw [lEqL_spec ih h]
      · cases h
    · cases h
variable [SymE]
variable [FT] [FTok]
abbrev Caller := FuncId → List Value → Mem → Option (AEnd × Mem)
def CS (P : Program) (C : Caller) : Prop := ∀ f args M e M', C f args M = some (e, M') → ACalls P f args M.abs fun e' aw' => e' = e ∧ aw' = M'.abs
section
variable {R : Type}
noncomputable def doT (t : T Value) (k : T Value → R) : R := T.dn t k
theorem doT_eq (t : T Value) (k : T Value → R) : doT t k = k t := rfl
noncomputable def doM (M : Mem) (k : Mem → R) : R := Mem.rec (motive := fun _ => R) (fun bl n => T.dn bl fun bl => doN n fun n => k ⟨bl, n⟩) M
theorem doM_eq (M : Mem) (k : Mem → R) : doM M k = k M := by
  obtain ⟨bl, n⟩ := M
  show T.dn bl (fun bl => doN n fun n => k ⟨bl, n⟩) = _
  rw [T.dn_eq, doN_eq]
end
inductive OpsR where
  | norm (ρ : T Value) (ds : List Deferred) (M : Mem)
  | pan (ch : List PanicEntry) (ρ : T Value) (ds : List Deferred) (M : Mem)
  | bad
def OpsR.holds (Kn : Env → List Deferred → AW → Prop) (Kp : List PanicEntry → Env → List Deferred → AW → Prop) : OpsR → Prop
  | .norm ρ ds M => Kn (slot ρ) ds M.abs
  | .pan ch ρ ds M => Kp ch (slot ρ) ds M.abs
  | .bad => False
def OpsR.holdsX (ops : Array Oper) (Kn : Env → List Deferred → AW → Prop) (Kp : List PanicEntry → Env → List Deferred → AW → Prop) : OpsR → Prop
  | .norm ρ ds M => Kn (slot ρ) ds M.abs
  | .pan ch ρ ds M => ∀ ρ', Off ops (slot ρ) ρ' → Kp ch ρ' ds M.abs
  | .bad => False
noncomputable def op1 (P : Program) (X : Exts) (C : Caller) (ops : Array Oper) (o : Oper) (ρ : T Value) (ds : List Deferred) (M : Mem) (next : T Value → List Deferred → Mem → OpsR) : OpsR := match gd ops (slot ρ) o.guard with
  | none => .bad
  | some false => doT (putS ρ o.dst undef) fun ρ => next ρ ds M
  | some true => (match o.op with
    | .call ⟨.value z, ⟨xs⟩, _⟩ => (match calls P (slot ρ) z xs with
      | none => (match extR P X (slot ρ) z xs with
        | none => .bad
        | some v => doV v fun v => doT (putS ρ o.dst v) fun ρ => next ρ ds M)
      | some (g, l) => doL l fun l => (match C g l M with
        | none => .bad
        | some (.returned v, M') => doV v fun v => doT (putS ρ o.dst v) fun ρ => doM M' fun M' => next ρ ds M'
        | some (.panicked ch, M') => .pan ch ρ ds M'))
    | .defer ⟨.value z, ⟨xs⟩, _⟩ => (match defers P (slot ρ) z xs with
      | none => .bad
      | some d => doT (putS ρ o.dst undef) fun ρ => next ρ (d :: ds) M)
    | .panic x => (match okv P.globals.size (slot ρ) x with
      | some (.iface u z) => .pan [⟨.iface u z, false, false⟩] ρ ds M
      | _ => .bad)
    | op => (match eOp P (slot ρ) M op with
      | none => .bad
      | some (v, M') => doV v fun v => doT (putS ρ o.dst v) fun ρ => doM M' fun M' => next ρ ds M'))
noncomputable def ops1 (P : Program) (X : Exts) (C : Caller) (ops : Array Oper) (l : List Oper) : T Value → List Deferred → Mem → OpsR := List.rec (motive := fun _ => T Value → List Deferred → Mem → OpsR) (fun ρ ds M => .norm ρ ds M)
  (fun o _ ih ρ ds M => op1 P X C ops o ρ ds M ih) l
section
variable {P : Program} {X : Exts} {C : Caller} {N : Nat} {ops : Array Oper} {Kn : Env → List Deferred → AW → Prop} {Kp : List PanicEntry → Env → List Deferred → AW → Prop}
theorem slot_put (ρ : T Value) (d : Option Tmp) (v : Value) : slot (putS ρ d v) = (show Env from slot ρ).put d v := putS_spec ρ d v
theorem op1_spec (hX : ExtOk P X) (hC : CS P C) (hN : dstsOk N ops = true) {o : Oper} {i : Nat} {rest : List Nat} (ho : ops[i]? = some o) {next : T Value → List Deferred → Mem → OpsR}
    (hn : ∀ ρ ds M, (next ρ ds M).holds Kn Kp → AOps P N ops rest (slot ρ) ds M.abs Kn Kp) {ρ : T Value} {ds : List Deferred} {M : Mem} (h : (op1 P X C ops o ρ ds M next).holds Kn Kp) : AOps P N ops (i :: rest) (slot ρ) ds M.abs Kn Kp := by
  unfold op1 at h
  split at h
  · exact h.elim
  · rename_i hg
    rw [doT_eq] at h
    have := hn _ _ _ h
    rw [slot_put] at this
    exact aops_skip hN ho (gd_spec hg Agr.refl) this
  · rename_i hg
    have hw := gd_spec (ρ := slot ρ) (ops := ops) (o := o) hg Agr.refl
    generalize hop : o.op = p at h
    split at h
    · rename_i z xs ts
      split at h
      · split at h
        · exact h.elim
        rename_i v hv
        rw [doV_eq, doT_eq] at h
        have := hn _ _ _ h
        rw [slot_put] at this
        exact aops_val hN ho hw (extR_spec hX hop hv) this
      rename_i g l hc
      rw [doL_eq] at h
      split at h
      · exact h.elim
      · rename_i v M' hr
        rw [doV_eq, doT_eq, doM_eq] at h
        have := hn _ _ _ h
        rw [slot_put] at this
        refine aops_call hN ho hw (calls_spec hop hc) (ACalls.mono (hC _ _ _ _ _ hr) fun e aw' he => ?_)
        obtain ⟨rfl, rfl⟩ := he
        exact this
      · rename_i ch M' hr
        refine aops_call hN ho hw (calls_spec hop hc) (ACalls.mono (hC _ _ _ _ _ hr) fun e aw' he => ?_)
        obtain ⟨rfl, rfl⟩ := he
        exact h
    · rename_i z xs ts
      split at h
      · exact h.elim
      rename_i d hd
      rw [doT_eq] at h
      have := hn _ _ _ h
      rw [slot_put] at this
      exact aops_defer hN ho hw (defers_spec hop hd) this
    · rename_i x
      split at h
      · rename_i u z hx
        obtain ⟨x1, x2⟩ := okv_spec hx
        exact aops_panic hN ho hw (opp_panic hop x1 x2) h
      · exact h.elim
    · split at h
      · exact h.elim
      rename_i v M' hv
      rw [doV_eq, doT_eq, doM_eq] at h
      have := hn _ _ _ h
      rw [slot_put] at this
      exact aops_val hN ho hw (eOp_spec (by rw [hop]; exact hv)) this
theorem ops1_spec (hX : ExtOk P X) (hC : CS P C) (hN : dstsOk N ops = true) : ∀ (l : List Oper) (i : Nat) (ρ : T Value) (ds : List Deferred) (M : Mem), ops.toList.drop i = l → (ops1 P X C ops l ρ ds M).holds Kn Kp → AOps P N ops (List.range' i l.length) (slot ρ) ds M.abs Kn Kp
  | [], i, ρ, ds, M, hl, h => aops_nil h
  | o :: l, i, ρ, ds, M, hl, h => by
    have hi : i < ops.toList.length := by
      rcases Nat.lt_or_ge i ops.toList.length with h | h
      · exact h
      · rw [List.drop_eq_nil_of_le h] at hl; cases hl
    rw [List.drop_eq_getElem_cons hi] at hl
    injection hl with h1 h2
    have ho : ops[i]? = some o := by
      rw [← h1]
      have hi' : i < ops.size := by simpa using hi
      simp [hi']
    exact op1_spec hX hC hN ho (fun ρ ds M h => ops1_spec hX hC hN l (i + 1) ρ ds M h2 h) h
theorem region_spec (hX : ExtOk P X) (hC : CS P C) (hN : dstsOk N ops = true) {ρ : T Value} {ds : List Deferred} {M : Mem} (h : (ops1 P X C ops ops.toList ρ ds M).holds Kn Kp) : AOps P N ops (List.range ops.size) (slot ρ) ds M.abs Kn Kp := by
  have := ops1_spec hX hC hN ops.toList 0 ρ ds M rfl h
  rw [Array.length_toList] at this
  rw [List.range_eq_range']
  exact this
end
noncomputable def hval (P : Program) (ops : Array Oper) (o : Oper) (ρ : Env) (M : Mem) : Option Value := match gd ops ρ o.guard with
  | none => none
  | some false => some undef
  | some true => bif quiet P o.op then (match eOp P ρ M o.op with
    | none => none
    | some (v, _) => some v) else none
theorem hval_spec {P : Program} {ops : Array Oper} {o : Oper} {ρ : Env} {M : Mem} {v : Value} (h : hval P ops o ρ M = some v) : HeadOp P ops o ρ M.abs v := by
  intro ρ' hag
  unfold hval at h
  split at h
  · cases h
  · rename_i hg
    simp only [Option.some.injEq] at h
    exact .inr (.inl ⟨gd_spec hg hag, h.symm⟩)
  · rename_i hg
    rw [cond_some] at h
    obtain ⟨hq, h⟩ := h
    split at h
    · cases h
    rename_i u M' hu
    simp only [Option.some.injEq] at h
    subst h
    obtain rfl := quiet_spec hq hu
    refine .inl ⟨gd_spec hg hag, eOp_spec ?_⟩
    rw [eOp_congr (agr_x hag)]; exact hu
noncomputable def heads (P : Program) (ops : Array Oper) (M : Mem) (hs : List Nat) : T Value → Option (T Value) := List.rec (motive := fun _ => T Value → Option (T Value)) (fun ρ => some ρ)
  (fun i _ ih ρ => match ops[i]? with
    | none => none
    | some o => (match hval P ops o (slot ρ) M with
      | none => none
      | some v => doV v fun v => doT (putS ρ o.dst v) fun ρ => ih ρ)) hs
noncomputable def again (P : Program) (ops : Array Oper) (ρ : Env) (M : Mem) (q : List Nat) : Bool := List.rec (motive := fun _ => Bool) true
  (fun i _ ih => match ops[i]? with
    | none => false
    | some o => (match o.dst with
      | none => false
      | some d => (match hval P ops o ρ M with
        | none => false
        | some v => vEq 8 v (ρ d) && ih))) q
theorem again_spec {P : Program} {ops : Array Oper} {ρ : Env} {M : Mem} : ∀ {q : List Nat}, again P ops ρ M q = true → FFl P ops q ρ M.abs
  | [], _ => fun i hi => by simp at hi
  | i :: q, h => by
    have h : (match ops[i]? with
      | none => false
      | some o => (match o.dst with
        | none => false
        | some d => (match hval P ops o ρ M with
          | none => false
          | some v => vEq 8 v (ρ d) && again P ops ρ M q))) = true := h
    split at h
    · cases h
    rename_i o ho
    split at h
    · cases h
    rename_i d hd
    split at h
    · cases h
    rename_i v hvv
    rename_i h
    rw [Bool.and_eq_true] at h
    obtain ⟨ha, hb⟩ := h
    intro j hj o' ho' d' hd'
    rcases List.mem_cons.1 hj with rfl | hj
    · rw [ho] at ho'
      obtain rfl := Option.some.inj ho'
      rw [hd] at hd'
      obtain rfl := Option.some.inj hd'
      rw [← vEq_spec _ _ _ ha]
      exact hval_spec hvv
    · exact again_spec hb j hj o' ho' d' hd'
theorem heads_spec {P : Program} {ops : Array Oper} {M : Mem} : ∀ {hs : List Nat} {ρ ρ' : T Value}, heads P ops M hs ρ = some ρ' → OffL ops hs (slot ρ) (slot ρ')
  | [], ρ, ρ', h => by
    have h : some ρ = some ρ' := h
    simp only [Option.some.injEq] at h
    subst h
    exact fun _ _ => rfl
  | i :: hs, ρ, ρ', h => by
    have h : (match ops[i]? with
      | none => none
      | some o => (match hval P ops o (slot ρ) M with
        | none => none
        | some v => doV v fun v => doT (putS ρ o.dst v) fun ρ => heads P ops M hs ρ)) = some ρ' := h
    split at h
    · cases h
    rename_i o ho
    split at h
    · cases h
    rename_i v hvv
    rw [doV_eq, doT_eq] at h
    have := heads_spec h
    intro t ht
    rw [this t fun j hj => ht j (by simp [hj]), show slot (putS ρ o.dst v) t = ((show Env from slot ρ).put o.dst v) t from congrFun (putS_spec ρ o.dst v) t]
    have e1 : dstOf ops i = o.dst := by simp [dstOf, ho]
    have hne := ht i (by simp)
    rw [e1] at hne
    cases hd : o.dst with
    | none => rfl
    | some d => rw [put_at, if_neg (fun h => hne (by rw [hd, h]))]
noncomputable def tailR (P : Program) (X : Exts) (C : Caller) (ops : Array Oper) (tl : Tl) : T Value → List Deferred → Mem → OpsR := List.rec (motive := fun _ => T Value → List Deferred → Mem → OpsR) (fun ρ ds M => .norm ρ ds M)
  (fun tq _ ih ρ ds M => match ops[tq.1]? with
    | none => .bad
    | some o => (match o.op with
      | .defer _ => .bad
      | _ => op1 P X C ops o ρ ds M fun ρ ds M => (match heads P ops M tq.2.2 ρ with
        | none => .bad
        | some ρ => bif again P ops (slot ρ) M (tq.2.1 ++ tq.2.2) then ih ρ ds M else .bad))) tl
section
variable {P : Program} {X : Exts} {C : Caller} {N : Nat} {ops : Array Oper} {Kn : Env → List Deferred → AW → Prop} {Kp : List PanicEntry → Env → List Deferred → AW → Prop}
theorem tail_spec (hX : ExtOk P X) (hC : CS P C) : ∀ {tl : Tl} {ρ : T Value} {ds : List Deferred} {M : Mem}, (tailR P X C ops tl ρ ds M).holdsX ops Kn Kp → LinT P ops Kn Kp tl (slot ρ) ds M.abs
  | [], ρ, ds, M, h => h
  | (t, q, nh) :: tl, ρ, ds, M, h => by
    have ih := fun {ρ ds M} => tail_spec hX hC (tl := tl) (ρ := ρ) (ds := ds) (M := M)
    have h : OpsR.holdsX ops Kn Kp (match ops[t]? with
      | none => .bad
      | some o => (match o.op with
        | .defer _ => .bad
        | _ => op1 P X C ops o ρ ds M fun ρ ds M => (match heads P ops M nh ρ with
          | none => .bad
          | some ρ => bif again P ops (slot ρ) M (q ++ nh) then tailR P X C ops tl ρ ds M else .bad))) := h
    split at h
    · exact h.elim
    rename_i o ho
    have nx : ∀ {ρ ds M}, OpsR.holdsX ops Kn Kp (match heads P ops M nh ρ with
        | none => .bad
        | some ρ => bif again P ops (slot ρ) M (q ++ nh) then tailR P X C ops tl ρ ds M else .bad) → ∃ ρ2, OffL ops nh (slot ρ) ρ2 ∧ FFl P ops (q ++ nh) ρ2 M.abs ∧ LinT P ops Kn Kp tl ρ2 ds M.abs := by
      intro ρ ds M h
      split at h
      · exact h.elim
      rename_i ρ2 hh
      cases hb : again P ops (slot ρ2) M (q ++ nh) with
      | false => rw [hb] at h; exact h.elim
      | true => rw [hb] at h; exact ⟨_, heads_spec hh, again_spec hb, ih h⟩
    split at h
    · exact h.elim
    rename_i hnd
    refine ⟨o, ho, ?_⟩
    unfold op1 at h
    split at h
    · exact h.elim
    · rename_i hg
      rw [doT_eq] at h
      have := nx h
      rw [slot_put] at this
      exact .skip (fun ρ' hag => gd_spec hg hag) this
    · rename_i hg
      generalize hop : o.op = p at h
      split at h
      · rename_i z xs ts
        have hxx : ∀ ρ', Agr ops o (slot ρ) ρ' → AgreeX P.globals.size (slot ρ) ρ' (z :: xs) := fun ρ' hag => by
          have hx := agr_x (G := P.globals.size) hag
          rw [hop] at hx
          intro y hy
          refine hx y ?_
          simp only [Op.operands, Call.operands]
          rcases List.mem_cons.1 hy with rfl | hy
          · simp
          · simp; exact .inr hy
        split at h
        · split at h
          · exact h.elim
          rename_i v hv
          rw [doV_eq, doT_eq] at h
          have := nx h
          rw [slot_put] at this
          refine .val (fun ρ' hag => ⟨gd_spec hg hag, extR_spec hX hop ?_⟩) this
          rw [extR_congr (ρ := slot ρ) (hxx ρ' hag)]; exact hv
        rename_i g l hc
        rw [doL_eq] at h
        have hcall : ∀ ρ', Agr ops o (slot ρ) ρ' → wants ops o ρ' true ∧ OpC P o ρ' g l := fun ρ' hag => by
          refine ⟨gd_spec hg hag, calls_spec hop ?_⟩
          rw [calls_congr (ρ := slot ρ)]
          · exact hc
          · have hx := agr_x (G := P.globals.size) hag
            rw [hop] at hx
            intro y hy
            refine hx y ?_
            simp only [Op.operands, Call.operands]
            rcases List.mem_cons.1 hy with rfl | hy
            · simp
            · simp; exact .inr hy
        split at h
        · exact h.elim
        · rename_i v M' hr
          rw [doV_eq, doT_eq, doM_eq] at h
          have := nx h
          rw [slot_put] at this
          refine .call hcall (ACalls.mono (hC _ _ _ _ _ hr) fun e aw' he => ?_)
          obtain ⟨rfl, rfl⟩ := he
          exact this
        · rename_i ch M' hr
          refine .call hcall (ACalls.mono (hC _ _ _ _ _ hr) fun e aw' he => ?_)
          obtain ⟨rfl, rfl⟩ := he
          exact h
      · rename_i z xs ts
        exact absurd hop (hnd _)
      · rename_i x
        split at h
        · rename_i u z hx
          refine .panic (fun ρ' hag => ⟨gd_spec hg hag, ?_⟩) h
          have hx' : okv P.globals.size ρ' x = some (.iface u z) := by
            rw [agr_x (G := P.globals.size) hag x (by rw [hop]; simp [Op.operands])]; exact hx
          obtain ⟨x1, x2⟩ := okv_spec hx'
          exact opp_panic hop x1 x2
        · exact h.elim
      · split at h
        · exact h.elim
        rename_i v M' hv'
        rw [doV_eq, doT_eq, doM_eq] at h
        have := nx h
        rw [slot_put] at this
        refine .val (fun ρ' hag => ⟨gd_spec hg hag, eOp_spec ?_⟩) this
        rw [eOp_congr (agr_x hag), hop]; exact hv'
end
end Go.Ri
set_option linter.unusedSimpArgs false
set_option linter.unusedVariables false
set_option linter.unusedSectionVars false
namespace Go.Ri
open Go Go.Am Go.RowKit
variable [SymE]
variable [FT] [FTok]
noncomputable def drawR (P : Program) (X : Exts) (C : Caller) (ops : Array Oper) (hs : List Nat) (tl : Tl) (ρ : T Value) (ds : List Deferred) (M : Mem) : OpsR := match heads P ops M hs ρ with
  | none => .bad
  | some ρ => bif again P ops (slot ρ) M hs then tailR P X C ops tl ρ ds M else .bad
section
variable {P : Program} {X : Exts} {C : Caller} {N : Nat} {ops : Array Oper}
theorem draw_spec (hX : ExtOk P X) (hC : CS P C) (hm : P.follows .mixedOrders = true) (hN : dstsOk N ops = true) {hs : List Nat} {tl : Tl} (hok : linOk ops hs tl = true) {id : Nat} {k : List Item} {R : ADone → Env → List Deferred → AW → Prop} {ρ : T Value} {ds : List Deferred} {M : Mem}
    (h : (drawR P X C ops hs tl ρ ds M).holdsX ops (fun ρ' ds' aw' => AGo P N k ρ' ds' aw' R) (fun ch ρ' ds' aw' => R (.panic ch) ρ' ds' aw')) : AGo P N (.code (.region id ops true) :: k) (slot ρ) ds M.abs R := by
  unfold drawR at h
  split at h
  · exact h.elim
  rename_i ρ' hh
  cases hb : again P ops (slot ρ') M hs with
  | false => rw [hb] at h; exact h.elim
  | true =>
    rw [hb] at h
    exact ago_drawF rfl hm hN hok (heads_spec hh) (again_spec hb) (tail_spec hX hC h)
end
inductive SR where
  | go (todo : List Item) (ρ : T Value) (ds : List Deferred) (M : Mem)
  | fin (d : ADone) (ρ : T Value) (ds : List Deferred) (M : Mem)
  | bad
abbrev Tab := Nat → Option (List Nat × Tl)
def OpsR.sr (k : List Item) (x : OpsR) : SR := match x with
  | .norm ρ ds M => .go k ρ ds M
  | .pan ch ρ ds M => .fin (.panic ch) ρ ds M
  | .bad => .bad
def offB (rs : List Tmp) (ops : Array Oper) : Bool := rs.all fun t => ops.toList.all fun o => o.dst != some t
noncomputable def step1 (P : Program) (X : Exts) (C : Caller) (N : Nat) (tab : Tab) (rs : List Tmp) (todo : List Item) (ρ : T Value) (ds : List Deferred) (M : Mem) : SR := match todo with
  | [] => .fin .ret ρ ds M
  | .code c :: k => (match c with
    | .skip => .go k ρ ds M
    | .seq x y => .go (.code x :: .code y :: k) ρ ds M
    | .label _ => .go k ρ ds M
    | .block id c => .go (.code c :: .inBlock id :: k) ρ ds M
    | .loop c => .go (.code c :: .inLoop c :: k) ρ ds M
    | .scope c => .go (.code c :: .inScope c :: k) ρ ds M
    | .exit id => (match exitTo id k with
      | some k => .go k ρ ds M
      | none => .bad)
    | .goto l => (match gotoIn l k with
      | some k => .go k ρ ds M
      | none => .bad)
    | .cond c x y => (match okv P.globals.size (slot ρ) c with
      | some (.bool true) => .go (.code x :: k) ρ ds M
      | some (.bool false) => .go (.code y :: k) ρ ds M
      | _ => .bad)
    | .ret => .fin .ret ρ ds M
    | .region id ops draw => bif dstsOk N ops then (match draw with
        | false => (ops1 P X C ops ops.toList ρ ds M).sr k
        | true => (match tab id with
          | none => .bad
          | some (hs, tl) => bif linOk ops hs tl then (match drawR P X C ops hs tl ρ ds M with
              | .norm ρ ds M => .go k ρ ds M
              | .pan ch ρ ds M => bif offB rs ops then .fin (.panic ch) ρ ds M else .bad
              | .bad => .bad) else .bad)) else .bad
    | _ => .bad)
  | .inBlock _ :: k => .go k ρ ds M
  | .inLoop c :: k => .go (.code c :: .inLoop c :: k) ρ ds M
  | .inScope _ :: k => .go k ρ ds M
  | _ => .bad
def SR.holds (P : Program) (N : Nat) (rs : List Tmp) (R : ADone → Env → List Deferred → AW → Prop) : SR → Prop
  | .go todo ρ ds M => AGo P N todo (slot ρ) ds M.abs R
  | .fin d ρ ds M => ∀ ρ' : Env, (∀ t ∈ rs, ρ' t = slot ρ t) → R d ρ' ds M.abs
  | .bad => False
section
variable {P : Program} {X : Exts} {C : Caller} {N : Nat} {tab : Tab} {rs : List Tmp} {R : ADone → Env → List Deferred → AW → Prop}
theorem step1_spec (hX : ExtOk P X) (hC : CS P C) (hm : P.follows .mixedOrders = true) {todo : List Item} {ρ : T Value} {ds : List Deferred} {M : Mem} (h : (step1 P X C N tab rs todo ρ ds M).holds P N rs R) : AGo P N todo (slot ρ) ds M.abs R := by
  unfold step1 at h
  split at h
  · exact ago_nil (h _ fun _ _ => rfl)
  · rename_i c k
    split at h
    · exact ago_skip h
    · exact ago_seq h
    · exact ago_label h
    · exact ago_block h
    · exact ago_loop h
    · exact ago_scope h
    · split at h
      · rename_i hk; exact ago_exit hk h
      · exact h.elim
    · split at h
      · rename_i hk; exact ago_goto hk h
      · exact h.elim
    · split at h
      · rename_i hc
        obtain ⟨c1, c2⟩ := okv_spec hc
        exact ago_cond c1 c2 (fun _ => h) (fun h => by cases h)
      · rename_i hc
        obtain ⟨c1, c2⟩ := okv_spec hc
        exact ago_cond c1 c2 (fun h => by cases h) (fun _ => h)
      · exact h.elim
    · exact ago_ret (h _ fun _ _ => rfl)
    · rename_i id ops draw
      cases hN : dstsOk N ops with
      | false => rw [hN] at h; exact h.elim
      | true =>
        rw [hN] at h
        simp only [cond_true] at h
        split at h
        · refine ago_region rfl (region_spec hX hC hN ?_)
          generalize ops1 P X C ops ops.toList ρ ds M = x at h
          cases x with
          | norm ρ ds M => exact h
          | pan ch ρ ds M => exact h _ fun _ _ => rfl
          | bad => exact h
        · split at h
          · exact h.elim
          rename_i hs tl ht
          cases hb : linOk ops hs tl with
          | false => rw [hb] at h; exact h.elim
          | true =>
            rw [hb] at h
            simp only [cond_true] at h
            refine draw_spec hX hC hm hN hb ?_
            generalize drawR P X C ops hs tl ρ ds M = x at h
            cases x with
            | norm ρ ds M => exact h
            | pan ch ρ ds M =>
              cases ho : offB rs ops with
              | false => simp only [ho, cond_false] at h; exact h.elim
              | true =>
                simp only [ho, cond_true] at h
                intro ρ' hoff
                refine h ρ' fun t ht => hoff t fun j hj => ?_
                simp only [offB, List.all_eq_true] at ho
                have hd := ho t ht
                unfold dstOf at hj
                cases hoj : ops[j]? with
                | none => rw [hoj] at hj; cases hj
                | some o =>
                  rw [hoj] at hj
                  have := hd o (by rw [Array.mem_toList_iff]; exact Array.mem_of_getElem? hoj)
                  simp only [Option.bind_some] at hj
                  rw [hj] at this
                  simp at this
            | bad => exact h.elim
    · exact h.elim
  · exact ago_inBlock h
  · exact ago_inLoop h
  · exact ago_inScope h
  · exact h.elim
noncomputable def iter (f : List Item → T Value → List Deferred → Mem → SR) (n : Nat) : List Item → T Value → List Deferred → Mem → SR := Nat.rec (motive := fun _ => List Item → T Value → List Deferred → Mem → SR) f
  (fun _ ih a b c d => SR.rec (motive := fun _ => SR) (fun a b c d => ih a b c d) (fun d ρ ds M => .fin d ρ ds M) .bad (ih a b c d)) n
theorem iter_spec {f : List Item → T Value → List Deferred → Mem → SR} (hf : ∀ todo ρ ds M, (f todo ρ ds M).holds P N rs R → AGo P N todo (slot ρ) ds M.abs R) : ∀ (n : Nat) (todo : List Item) (ρ : T Value) (ds : List Deferred) (M : Mem),
    (iter f n todo ρ ds M).holds P N rs R → AGo P N todo (slot ρ) ds M.abs R
  | 0, todo, ρ, ds, M, h => hf _ _ _ _ h
  | n + 1, todo, ρ, ds, M, h => by
    have h : (SR.rec (motive := fun _ => SR) (fun a b c d => iter f n a b c d) (fun d ρ ds M => .fin d ρ ds M) .bad (iter f n todo ρ ds M) : SR).holds P N rs R := h
    refine iter_spec hf n _ _ _ _ ?_
    cases hx : iter f n todo ρ ds M with
    | go a b c d =>
      rw [hx] at h
      exact iter_spec hf n _ _ _ _ h
    | fin d ρ' ds' M' => rw [hx] at h; exact h
    | bad => rw [hx] at h; exact h
end
noncomputable def res1 (P : Program) (ρ : Env) (M : Mem) : ResultVar → Option Value
  | .tmp t => some (ρ t)
  | .cell a t => (match ρ a with
    | .pointer (some ⟨b, i, none⟩) => (match P.underlying t with
      | none => none
      | some d => bif aggT d then (match (P.info? t).map (·.size) with
          | none => none
          | some n => (match M.getN b i n with
            | none => none
            | some l => some (.agg ⟨l⟩)))
        else M.get b i)
    | _ => none)
theorem res1_spec {P : Program} {ρ : Env} {M : Mem} {r : ResultVar} {v : Value} (h : res1 P ρ M r = some v) : OneR P ρ M.abs r v := by
  cases r with
  | tmp t => simp only [res1, Option.some.injEq] at h; exact oneT h
  | cell a t =>
    simp only [res1] at h
    split at h
    · rename_i b i ha
      split at h
      · cases h
      rename_i d hu
      cases hag : aggT d with
      | true =>
        rw [hag] at h
        simp only [cond_true] at h
        split at h
        · cases h
        rename_i n hn
        split at h
        · cases h
        rename_i l hl
        simp only [Option.some.injEq] at h; subst h
        exact oneN ha rfl hu hag hn (M.getN_spec hl)
      | false =>
        rw [hag] at h
        simp only [cond_false] at h
        exact one1 ha rfl hu hag (M.get_spec h)
    · cases h
def rSlot : ResultVar → Tmp
  | .tmp t => t
  | .cell a _ => a
theorem res1_congr {P : Program} {ρ ρ' : Env} {M : Mem} {r : ResultVar} (h : ρ' (rSlot r) = ρ (rSlot r)) : res1 P ρ' M r = res1 P ρ M r := by
  cases r with
  | tmp t => simp only [res1, rSlot] at h ⊢; rw [h]
  | cell a t => simp only [res1, rSlot] at h ⊢; rw [h]
noncomputable def resF (P : Program) (fn : Func) (ρ : Env) (M : Mem) : Option Value := match fn.results with
  | ⟨[]⟩ => some (.tuple ⟨[]⟩)
  | ⟨[a]⟩ => res1 P ρ M a
  | ⟨[a, b]⟩ => (match res1 P ρ M a, res1 P ρ M b with
    | some u, some v => some (.tuple ⟨[u, v]⟩)
    | _, _ => none)
  | ⟨[a, b, c]⟩ => (match res1 P ρ M a, res1 P ρ M b, res1 P ρ M c with
    | some u, some v, some w => some (.tuple ⟨[u, v, w]⟩)
    | _, _, _ => none)
  | ⟨[a, b, c, d]⟩ => (match res1 P ρ M a, res1 P ρ M b, res1 P ρ M c, res1 P ρ M d with
    | some u, some v, some w, some x => some (.tuple ⟨[u, v, w, x]⟩)
    | _, _, _, _ => none)
  | _ => none
def rSlots (fn : Func) : List Tmp := fn.results.toList.map rSlot
theorem resF_spec {P : Program} {fn : Func} {N : Nat} {ρ ρ' : Env} {M : Mem} {v : Value} (h : resF P fn ρ M = some v) (hr : ∀ t ∈ rSlots fn, ρ' t = ρ t) : ARes P fn N ρ' M.abs v := by
  unfold resF at h
  have one : ∀ r u, r ∈ fn.results.toList → res1 P ρ M r = some u → OneR P ρ' M.abs r u := fun r u hm hu => by
    refine res1_spec ?_
    rw [res1_congr (ρ := ρ) (hr _ (List.mem_map.2 ⟨r, hm, rfl⟩))]
    exact hu
  split at h
  · rename_i hf
    simp only [Option.some.injEq] at h; subst h
    exact ares_0 hf
  · rename_i a hf
    exact ares_1 hf (one a _ (by rw [hf]; simp) h)
  · rename_i a b hf
    split at h
    · rename_i u w h1 h2
      simp only [Option.some.injEq] at h; subst h
      exact ares_2 hf (one a _ (by rw [hf]; simp) h1) (one b _ (by rw [hf]; simp) h2)
    · cases h
  · rename_i a b c hf
    split at h
    · rename_i u w x h1 h2 h3
      simp only [Option.some.injEq] at h; subst h
      exact ares_3 hf (one a _ (by rw [hf]; simp) h1) (one b _ (by rw [hf]; simp) h2) (one c _ (by rw [hf]; simp) h3)
    · cases h
  · rename_i a b c d hf
    split at h
    · rename_i u w x y h1 h2 h3 h4
      simp only [Option.some.injEq] at h; subst h
      exact ares_4 hf (one a _ (by rw [hf]; simp) h1) (one b _ (by rw [hf]; simp) h2) (one c _ (by rw [hf]; simp) h3) (one d _ (by rw [hf]; simp) h4)
    · cases h
  · cases h
abbrev CallerD := FuncId → List Value → ADone → Mem → Option (AEnd × ADone × Mem)
def CDS (P : Program) (D : CallerD) : Prop := ∀ f args u M e u' M', D f args u M = some (e, u', M') → ACallsD P f args u M.abs fun e' u'' aw' => e' = e ∧ u'' = u' ∧ aw' = M'.abs
noncomputable def leave (P : Program) (fn : Func) (D : CallerD) (ρ : T Value) (ds : List Deferred) : ADone → Mem → Option (AEnd × Mem) := List.rec (motive := fun _ => ADone → Mem → Option (AEnd × Mem))
  (fun u M => match u with
    | .ret => (match resF P fn (slot ρ) M with
      | some v => some (.returned v, M)
      | none => none)
    | .panic ch => some (.panicked ch, M))
  (fun d _ ih u M => match d.target with
    | .fn (.func g) ⟨cap⟩ => bif fnOk P g then (match D g (d.args.toList ++ cap) u M with
      | some (.returned _, u', M') => ih (asettle u') M'
      | some (.panicked ch, u', M') => ih (araised u' ch) M'
      | none => none) else none
    | _ => none) ds
theorem leave_spec {P : Program} {fn : Func} {D : CallerD} {N : Nat} (hD : CDS P D) {ρ : T Value} {ρ' : Env} (hr : ∀ t ∈ rSlots fn, ρ' t = slot ρ t) {e : AEnd} {M' : Mem} : ∀ {ds : List Deferred} {u : ADone} {M : Mem}, leave P fn D ρ ds u M = some (e, M') →
    ALeaves P fn N ρ' (fun e' aw' => e' = e ∧ aw' = M'.abs) ds u M.abs
  | [], .ret, M, h => by
    have h : (match resF P fn (slot ρ) M with
      | some v => some (AEnd.returned v, M)
      | none => none) = some (e, M') := h
    split at h
    · rename_i v hv
      simp only [Option.some.injEq, Prod.mk.injEq] at h
      obtain ⟨rfl, rfl⟩ := h
      exact ⟨v, resF_spec hv hr, rfl, rfl⟩
    · cases h
  | [], .panic ch, M, h => by
    have h : some (AEnd.panicked ch, M) = some (e, M') := h
    simp only [Option.some.injEq, Prod.mk.injEq] at h
    obtain ⟨rfl, rfl⟩ := h
    exact ⟨rfl, rfl⟩
  | d :: ds, u, M, h => by
    have ih := fun {u M} => leave_spec (N := N) hD hr (e := e) (M' := M') (ds := ds) (u := u) (M := M)
    have h : (match d.target with
      | .fn (.func g) ⟨cap⟩ => bif fnOk P g then (match D g (d.args.toList ++ cap) u M with
        | some (.returned _, u', M') => leave P fn D ρ ds (asettle u') M'
        | some (.panicked ch, u', M') => leave P fn D ρ ds (araised u' ch) M'
        | none => none) else none
      | _ => none) = some (e, M') := h
    split at h
    · rename_i g cap htar
      rw [cond_some] at h
      obtain ⟨hf, h⟩ := h
      obtain ⟨fn', c, f1, f2, f3⟩ := fnOk_spec hf
      refine ⟨g, ⟨cap⟩, htar, ⟨fn', c, f1, f2, f3⟩, ?_⟩
      split at h
      · rename_i v u' M2 hd
        refine ACallsD.mono (hD _ _ _ _ _ _ _ hd) fun e' u'' aw' hh => ?_
        obtain ⟨rfl, rfl, rfl⟩ := hh
        exact ih h
      · rename_i ch u' M2 hd
        refine ACallsD.mono (hD _ _ _ _ _ _ _ hd) fun e' u'' aw' hh => ?_
        obtain ⟨rfl, rfl, rfl⟩ := hh
        exact ih h
      · cases h
    · cases h
noncomputable def sil (n : Nat) : List Item → List Item := Nat.rec (motive := fun _ => List Item → List Item) (fun l => l) (fun _ ih l => match l with
  | .code (.seq x y) :: k => ih (.code x :: .code y :: k)
  | .code (.block id c) :: k => ih (.code c :: .inBlock id :: k)
  | .code (.scope c) :: k => ih (.code c :: .inScope c :: k)
  | .code .skip :: k => ih k
  | l => l) n
theorem sil_spec : ∀ (n : Nat) (l : List Item), Silent l (sil n l)
  | 0, l => .refl l
  | n + 1, l => by
    have ih := sil_spec n
    show Silent l (match l with
      | .code (.seq x y) :: k => sil n (.code x :: .code y :: k)
      | .code (.block id c) :: k => sil n (.code c :: .inBlock id :: k)
      | .code (.scope c) :: k => sil n (.code c :: .inScope c :: k)
      | .code .skip :: k => sil n k
      | l => l)
    split
    · exact .seq (ih _)
    · exact .block (ih _)
    · exact .scope (ih _)
    · exact .skip (ih _)
    · exact .refl _
noncomputable def endD (P : Program) (fn : Func) (u : ADone) (x : SR) : Option (AEnd × ADone × Mem) := match x with
  | .fin .ret ρ [] M => (match resF P fn (slot ρ) M with
    | some v => some (.returned v, u, M)
    | none => none)
  | .fin (.panic ch) _ [] M => some (.panicked ch, u, M)
  | _ => none
noncomputable def callD (P : Program) (X : Exts) (C : Caller) (tab : Nat → Tab) (n : Nat) : CallerD := fun f args u M => match P.funcs[f]? with
  | none => none
  | some fn => (match fn.body with
    | none => none
    | some c => bif Nat.ble args.length fn.ntmps then (match sil 40 [.code c] with
      | .code (.region id ops false) :: k => (match ops with
        | ⟨o :: rest⟩ => (match o with
          | ⟨dst, .call ⟨.builtin .recover, ⟨[]⟩, _⟩, _, _, _, none⟩ => bif dstsOk fn.ntmps ops then
              doV (recovers u).1 fun v => doT (putS (T.ofL args 0 .leaf) dst v) fun ρ => (match ops1 P X C ops rest ρ [] M with
                | .norm ρ ds M => endD P fn (recovers u).2 (iter (step1 P X C fn.ntmps (tab f) (rSlots fn)) n k ρ ds M)
                | .pan ch ρ ds M => endD P fn (recovers u).2 (.fin (.panic ch) ρ ds M)
                | .bad => none) else none
          | _ => endD P fn u (iter (step1 P X C fn.ntmps (tab f) (rSlots fn)) n [.code c] (T.ofL args 0 .leaf) [] M))
        | ⟨[]⟩ => endD P fn u (iter (step1 P X C fn.ntmps (tab f) (rSlots fn)) n [.code c] (T.ofL args 0 .leaf) [] M))
      | _ => endD P fn u (iter (step1 P X C fn.ntmps (tab f) (rSlots fn)) n [.code c] (T.ofL args 0 .leaf) [] M)) else none)
theorem slot_init (args : List Value) : slot (T.ofL args 0 .leaf) = Env.init args := by
  funext t
  simp only [slot, T.get_ofL, Env.init]
  by_cases h : t < args.length
  · rw [if_pos ⟨Nat.zero_le _, by omega⟩]
    simp [List.getD, h]
  · rw [if_neg (by omega)]
    simp [List.getD, List.getElem?_eq_none (Nat.le_of_not_lt h), T.get_leaf]
theorem endD_spec {P : Program} {fn : Func} {N : Nat} {u : ADone} {x : SR} {e : AEnd} {u' : ADone} {M' : Mem} (h : endD P fn u x = some (e, u', M')) : u' = u ∧
    x.holds P N (rSlots fn) (fun d ρ ds aw' => ds = [] ∧ match d with
      | .ret => ∃ v, ARes P fn N ρ aw' v ∧ (AEnd.returned v = e ∧ aw' = M'.abs)
      | .panic ch => AEnd.panicked ch = e ∧ aw' = M'.abs) := by
  unfold endD at h
  split at h
  · split at h
    · rename_i v hv
      simp only [Option.some.injEq, Prod.mk.injEq] at h
      obtain ⟨rfl, rfl, rfl⟩ := h
      exact ⟨rfl, fun ρ' hr => ⟨rfl, v, resF_spec hv hr, rfl, rfl⟩⟩
    · cases h
  · simp only [Option.some.injEq, Prod.mk.injEq] at h
    obtain ⟨rfl, rfl, rfl⟩ := h
    exact ⟨rfl, fun ρ' hr => ⟨rfl, rfl, rfl⟩⟩
  · cases h
theorem callD_spec {P : Program} {X : Exts} {C : Caller} {tab : Nat → Tab} {n : Nat} (hX : ExtOk P X) (hC : CS P C) (hm : P.follows .mixedOrders = true) : CDS P (callD P X C tab n) := by
  intro f args u M e u' M' h
  unfold callD at h
  split at h
  · cases h
  rename_i fn hf
  split at h
  · cases h
  rename_i c hb
  rw [cond_some] at h
  obtain ⟨hl, h⟩ := h
  have hl := Nat.le_of_ble_eq_true hl
  have plainD : endD P fn u (iter (step1 P X C fn.ntmps (tab f) (rSlots fn)) n [.code c] (T.ofL args 0 .leaf) [] M) = some (e, u', M') → ACallsD P f args u M.abs fun e' u'' aw' => e' = e ∧ u'' = u' ∧ aw' = M'.abs := by
    intro h
    obtain ⟨rfl, hx⟩ := endD_spec (N := fn.ntmps) h
    refine acallsD_of_ago hf hb rfl hl ?_
    have := iter_spec (fun todo ρ ds M h => step1_spec hX hC hm h) n _ _ _ _ hx
    rw [slot_init] at this
    refine ago_mono ?_ this
    rintro d ρ ds aw ⟨h1, h2⟩
    refine ⟨h1, ?_⟩
    cases d with
    | ret => obtain ⟨v, k1, k2, k3⟩ := h2; exact ⟨v, k1, k2, rfl, k3⟩
    | panic ch => exact ⟨h2.1, rfl, h2.2⟩
  split at h
  · rename_i id ops k hsil
    split at h
    · rename_i o rest
      split at h
      · rename_i dst at' ty pos after
        rw [cond_some] at h
        obtain ⟨hN, h⟩ := h
        rw [doV_eq, doT_eq] at h
        have hs := sil_spec 40 [.code c]
        rw [hsil] at hs
        have hu : ∀ {x : SR}, endD P fn (recovers u).2 x = some (e, u', M') → u' = (recovers u).2 := fun h => (endD_spec (N := fn.ntmps) h).1
        refine acallsD_recover (o := ⟨dst, .call ⟨.builtin .recover, ⟨[]⟩, at'⟩, ty, pos, after, none⟩) (rest := List.range' 1 rest.length) hf hb rfl hl hs ?_ rfl rfl rfl ?_ ?_
        · rw [List.range_eq_range']
          simp only [List.size_toArray, List.length_cons]
          rfl
        · intro d hd
          exact dstsOk_get (N := fn.ntmps) hN (j := 0) (by simpa using hd)
        · refine ago_inRegion ?_
          rw [← slot_init, ← slot_put]
          refine ops1_spec hX hC hN rest 1 _ _ _ rfl ?_
          split at h
          · rename_i ρ2 ds2 M2 hx
            rw [hx]
            obtain ⟨rfl, hh⟩ := endD_spec (N := fn.ntmps) h
            have := iter_spec (fun todo ρ ds M h => step1_spec hX hC hm h) n _ _ _ _ hh
            refine ago_mono ?_ this
            rintro d ρ ds aw ⟨h1, h2⟩
            refine ⟨h1, ?_⟩
            cases d with
            | ret => obtain ⟨v, k1, k2, k3⟩ := h2; exact ⟨v, k1, k2, rfl, k3⟩
            | panic ch => exact ⟨h2.1, rfl, h2.2⟩
          · rename_i ch ρ2 ds2 M2 hx
            rw [hx]
            obtain ⟨rfl, hh⟩ := endD_spec (N := fn.ntmps) h
            obtain ⟨h1, h2⟩ := hh _ fun _ _ => rfl
            exact ⟨h1, h2.1, rfl, h2.2⟩
          · cases h
      · exact plainD h
    · exact plainD h
  · exact plainD h
where
  ago_mono {P : Program} {N : Nat} {todo : List Item} {ρ : Env} {ds : List Deferred} {aw : AW} {R R' : ADone → Env → List Deferred → AW → Prop} (hr : ∀ d ρ ds aw, R d ρ ds aw → R' d ρ ds aw) (h : AGo P N todo ρ ds aw R) : AGo P N todo ρ ds aw R' := by
    intro base w0 s a w b cs hst
    obtain ⟨m, t', a', w', h1, s', d, ρ', ds', aw', h2, h3, h4, h5⟩ := h base w0 s a w b cs hst
    exact ⟨m, t', a', w', h1, s', d, ρ', ds', aw', h2, h3, h4, hr _ _ _ _ h5⟩
noncomputable def callOne (P : Program) (X : Exts) (tab : Nat → Tab) (n : Nat) (C : Caller) : Caller := fun f args M => match P.funcs[f]? with
  | none => none
  | some fn => (match fn.body with
    | none => none
    | some c => bif Nat.ble args.length fn.ntmps then (match iter (step1 P X C fn.ntmps (tab f) (rSlots fn)) n [.code c] (T.ofL args 0 .leaf) [] M with
      | .fin d ρ ds M => leave P fn (callD P X C tab n) ρ ds d M
      | _ => none) else none)
theorem callOne_spec {P : Program} {X : Exts} {C : Caller} {tab : Nat → Tab} {n : Nat} (hX : ExtOk P X) (hC : CS P C) (hm : P.follows .mixedOrders = true) : CS P (callOne P X tab n C) := by
  intro f args M e M' h
  unfold callOne at h
  split at h
  · cases h
  rename_i fn hf
  split at h
  · cases h
  rename_i c hb
  rw [cond_some] at h
  obtain ⟨hl, h⟩ := h
  have hl := Nat.le_of_ble_eq_true hl
  split at h
  · rename_i d ρ ds M2 hx
    refine acalls_of_ago_d hf hb rfl hl ?_
    rw [← slot_init]
    refine iter_spec (rs := rSlots fn) (f := step1 P X C fn.ntmps (tab f) (rSlots fn)) (fun todo ρ ds M h => step1_spec hX hC hm h) n _ _ _ _ ?_
    rw [hx]
    intro ρ' hr
    exact leave_spec (callD_spec hX hC hm) hr h
  · cases h
noncomputable def callN (P : Program) (X : Exts) (tab : Nat → Tab) (n : Nat) (d : Nat) : Caller := Nat.rec (motive := fun _ => Caller) (fun _ _ _ => none) (fun _ ih => callOne P X tab n ih) d
theorem callN_spec {P : Program} {X : Exts} {tab : Nat → Tab} {n : Nat} (hX : ExtOk P X) (hm : P.follows .mixedOrders = true) : ∀ d, CS P (callN P X tab n d)
  | 0 => fun _ _ _ _ _ h => by cases h
  | d + 1 => callOne_spec hX (callN_spec hX hm d) hm
end Go.Ri
set_option linter.unusedSimpArgs false
set_option linter.unusedVariables false
set_option linter.unusedSectionVars false
namespace Go.Ri
open Go Go.Am Go.RowKit
variable [SymE]
variable [FT] [FTok]
def dCells {H : Type} : Nat → DataW H → Option (List Value)
  | 0, _ => none
  | n + 1, d => match d with
    | .lit (.int k m) => some [.int k m]
    | .lit (.string l) => some [.string ⟨⟨l⟩⟩]
    | .lit (.bool b) => some [.bool b]
    | .agg ds => all n ds
    | _ => none
where
  all {H : Type} (n : Nat) : List (DataW H) → Option (List Value)
  | [] => some []
  | d :: r => match dCells n d, all n r with
    | some a, some b => some (a ++ b)
    | _, _ => none
end Go.Ri
set_option linter.unusedSimpArgs false
set_option linter.unusedVariables false
set_option linter.unusedSectionVars false
namespace Go.Ri
open Go Go.Am Go.RowKit
variable [SymE]
variable [FT] [FTok]
theorem _root_.Go.Am.Rel.later {G : Nat} {base : Nat → Prop} {w0 w w' : World} {s : Inj} {aw : AW} (h : Rel G base w0 s aw w) (hb : Keep (· < w.heap.size) w w') : Rel G base w0 s aw w' where
  fresh := h.fresh
  mfresh := h.mfresh
  blk b B hB := by
    obtain ⟨e, cs, fz, h1, h2, h3, h4⟩ := h.blk b B hB
    refine ⟨e, cs, fz, h1, h2, ?_, h4⟩
    rw [hb.block _ (Array.getElem?_eq_some_iff.1 h3).1]
    exact h3
  sep := h.sep
  hbase := fun k hk => Nat.lt_of_lt_of_le (h.hbase k hk) hb.size
  glob := h.glob
  below := h.below.trans (hb.mono h.hbase)
theorem plain_ER {s t : Inj} {v : Value} {e : Ending} (hp : plain v = true) (h : ER s (.returned v) e) : ER t (.returned v) e := by
  cases h with
  | returned h =>
    have := VR.eq_of_plain h hp
    subst this
    exact .returned (VR.ofPlain hp)
end Go.Ri
namespace Go.Ri
open Go Go.Am Go.RowKit
variable [SymE]
end Go.Ri
set_option linter.unusedSimpArgs false
set_option linter.unusedVariables false
set_option linter.unusedSectionVars false
namespace Go.Ri
open Go Go.Am Go.RowKit
variable [SymE]
variable [FT] [FTok]
def rnV (ren : Nat → Nat) : Value → Value
  | .pointer (some ⟨b, o, q⟩) => .pointer (some ⟨ren b, o, q⟩)
  | .slice (some ⟨b, o, q⟩) l c => .slice (some ⟨ren b, o, q⟩) l c
  | v => v
def okV (n : Nat) : Value → Bool
  | .pointer (some ⟨b, _, none⟩) => Nat.blt b n
  | .slice (some ⟨b, _, none⟩) _ _ => Nat.blt b n
  | .pointer (some ⟨_, _, some _⟩) => false
  | .slice (some ⟨_, _, some _⟩) _ _ => false
  | v => plain v
theorem vr_ren {s : Inj} {ren : Nat → Nat} {n : Nat} {v v' : Value} (h : okV n v = true) (hv : VR s (rnV ren v) v') : VR (fun b => if b < n then s (ren b) else none) v v' := by
  have pl : ∀ {v : Value}, plain v = true → VR s v v' → VR (fun b => if b < n then s (ren b) else none) v v' := fun hp hv => by
    have := VR.eq_of_plain hv hp
    subst this
    exact VR.ofPlain hp
  unfold okV at h
  split at h
  · rename_i b o
    rw [Nat.blt_eq] at h
    simp only [rnV] at hv
    cases hv with
    | ptr he => exact .ptr (by simp only [if_pos h]; exact he)
  · rename_i b o l c
    rw [Nat.blt_eq] at h
    simp only [rnV] at hv
    cases hv with
    | slice hl hc hh => exact .slice hl hc fun hp => by simp only [if_pos h]; exact hh hp
  · cases h
  · cases h
  · rename_i h1 h2 h3 h4
    have e : rnV ren v = v := by
      unfold rnV
      split
      · rename_i b o q
        cases q with
        | none => exact absurd rfl (h1 b o)
        | some q => exact absurd rfl (h3 b o q)
      · rename_i b o q l c
        cases q with
        | none => exact absurd rfl (h2 b o l c)
        | some q => exact absurd rfl (h4 b o q l c)
      · rfl
    rw [e] at hv
    exact pl h hv
noncomputable def memR (n : Nat) (l : List (Nat × List Value × TypeId × Nat)) : Mem := ⟨List.rec (motive := fun _ => T (Option RB)) .leaf (fun p _ ih => T.dn ih fun t => T.set (some ⟨T.ofL p.2.1 0 .leaf, p.2.1.length, p.2.2.1, p.2.2.2, false⟩) t p.1) l, n⟩
theorem memR_abs {n : Nat} : ∀ (l : List (Nat × List Value × TypeId × Nat)) (b : Nat) (B : Blk), (memR n l).abs.m b = some B → ∃ p ∈ l, p.1 = b ∧ B = ⟨p.2.1, p.2.2.1, p.2.2.2, false, 0⟩
  | [], b, B, h => by
    have : (memR n []).abs.m b = none := by simp [Mem.abs, Mem.at, memR, T.get_leaf]
    rw [this] at h; cases h
  | p :: l, b, B, h => by
    have hbl : (memR n (p :: l)).bl = T.set (some ⟨T.ofL p.2.1 0 .leaf, p.2.1.length, p.2.2.1, p.2.2.2, false⟩) (memR n l).bl p.1 := by
      rfl
    simp only [Mem.abs, Mem.at, hbl, T.get_set] at h
    by_cases hb : b = p.1
    · rw [if_pos hb] at h
      simp only [Option.map_some, Option.some.injEq] at h
      refine ⟨p, by simp, hb.symm, ?_⟩
      rw [← h]
      simp only [RB.abs, Blk.mk.injEq, and_true]
      apply List.ext_getElem?
      intro k
      simp only [List.getElem?_map]
      rcases Nat.lt_or_ge k p.2.1.length with hk | hk
      · rw [List.getElem?_range hk]
        simp only [Option.map_some, T.get_ofL]
        rw [if_pos (by omega), Nat.sub_zero, List.getElem?_eq_getElem hk]; rfl
      · rw [List.getElem?_eq_none (by simp; omega), List.getElem?_eq_none hk]; rfl
    · rw [if_neg hb] at h
      obtain ⟨q, hq, h1, h2⟩ := memR_abs l b B h
      exact ⟨q, by simp [hq], h1, h2⟩
end Go.Ri
set_option linter.unusedSimpArgs false
set_option linter.unusedVariables false
set_option linter.unusedSectionVars false
namespace Go.Ri
open Go Go.Am Go.RowKit
def retW : Option (AEnd × Mem) → Bool
  | some (.returned (.bool b), _) => b
  | _ => false
theorem retW_some {x : Option (AEnd × Mem)} (h : retW x = true) : ∃ M', x = some (.returned (.bool true), M') := by
  unfold retW at h
  split at h
  · subst h; exact ⟨_, rfl⟩
  · cases h
@[reducible] def ftW : FT := ⟨fun _ _ _ => none, fun _ _ => none, fun _ _ => none, fun _ => none⟩
theorem ftWok [SymE] : @FTok _ ftW := @FTok.mk _ ftW (fun _ _ _ _ h => by cases h) (fun _ _ _ h => by cases h) (fun _ _ _ h => by cases h) (fun _ _ h => by cases h)
variable [SymE]
variable [FT] [FTok]
def rnX (ren : Nat → Nat) : Value → Value
  | .map (some i) => SymE.E i
  | v => rnV ren v
def okX (n : Nat) : Value → Bool
  | .map (some _) => true
  | v => okV n v
theorem vr_renX {s : Inj} {ren : Nat → Nat} {n : Nat} {v v' : Value} (h : okX n v = true) (hv : VR s (rnX ren v) v') : VR (fun b => if b < n then s (ren b) else none) v v' := by
  unfold okX at h
  split at h
  · rename_i i
    simp only [rnX] at hv
    have e : v' = SymE.E i := by
      rcases SymE.leaf i with ⟨k, m, e⟩ | ⟨x, e⟩ <;> rw [e] at hv ⊢ <;> cases hv <;> rfl
    subst e
    exact .sym i
  · rename_i h1
    have e : rnX ren v = rnV ren v := by
      unfold rnX
      split
      · rename_i i; exact absurd rfl (h1 i)
      · rfl
    rw [e] at hv
    exact vr_ren h hv
theorem vrs_renX {s : Inj} {ren : Nat → Nat} {n : Nat} : ∀ {l l' : List Value}, l.all (okX n) = true → VRs s (l.map (rnX ren)) l' → VRs (fun b => if b < n then s (ren b) else none) l l'
  | [], _, _, h => by cases h; exact .nil
  | x :: l, _, ha, h => by
    simp only [List.all_cons, Bool.and_eq_true] at ha
    simp only [List.map_cons] at h
    cases h with
    | cons h1 t => exact .cons (vr_renX ha.1 h1) (vrs_renX ha.2 t)
structure UnderX (G : Nat) (ren : Nat → Nat) (aw0 aw : AW) : Prop where
  le : G ≤ aw0.next
  gl : ∀ g, g < G → ren g = g
  no : ∀ b, aw0.next ≤ b → aw0.m b = none
  blk : ∀ b B, aw0.m b = some B → B.rw = false ∧ ∃ B', aw.m (ren b) = some B' ∧ B'.elem = B.elem ∧ B'.esz = B.esz ∧ (B.esz = 0 → B'.cells.length = B.cells.length) ∧
    ∀ (i : Nat) (v : Value), B.cells[i]? = some v → okX aw0.next v = true ∧ B'.cells[i]? = some (rnX ren v)
theorem acalls_renX {P : Program} {f : FuncId} {args : List Value} {aw0 aw aw1 : AW} {v : Value} {ren : Nat → Nat} (hu : UnderX P.globals.size ren aw0 aw) (ha : args.all (okX aw0.next) = true) (hv : plain v = true)
    (h : ACalls P f args aw0 fun e aw' => e = .returned v ∧ aw' = aw1) : ACalls P f (args.map (rnX ren)) aw fun e aw' => e = .returned v ∧ aw' = aw := by
  intro base w0 s args' w hr hargs
  have r0 : Rel P.globals.size (· < w.heap.size) w (fun b => if b < aw0.next then s (ren b) else none) aw0 w := by
    refine ⟨?_, ?_, ?_, ?_, (fun k hk => hk), ?_, Keep.refl _ _⟩
    · intro b hb
      simp only [if_neg (show ¬ b < aw0.next by omega)]
    · exact hu.no
    · intro b B hB
      have hlt : b < aw0.next := by
        rcases Nat.lt_or_ge b aw0.next with h | h
        · exact h
        · rw [hu.no b h] at hB; cases hB
      obtain ⟨h3, B', k1, k2, k3, k4, k5⟩ := hu.blk b B hB
      obtain ⟨e, cs, fz, g1, g2, g3, g4, g5, g6, g7⟩ := hr.blk (ren b) B' k1
      have hlen : B.cells.length ≤ B'.cells.length := by
        rcases Nat.lt_or_ge B'.cells.length B.cells.length with h | h
        · have hx := (k5 B'.cells.length _ (List.getElem?_eq_getElem h)).2
          rw [List.getElem?_eq_none (Nat.le_refl _)] at hx; cases hx
        · exact h
      refine ⟨e, cs, fz, by simp only [if_pos hlt]; exact g1, ⟨g2.1.trans k3, (fun h => absurd (h3.symm.trans h) (by decide)), fun h0 => ?_⟩, k2 ▸ g3, g4, by omega, fun i u hi => ?_, (fun h => absurd (h3.symm.trans h) (by decide))⟩
      · obtain ⟨q1, q2⟩ := g2.2.2 (k3.trans h0)
        exact ⟨q1, by rw [q2, k4 h0]⟩
      · obtain ⟨j1, j2⟩ := k5 i u hi
        obtain ⟨u', l1, l2⟩ := g6 i _ j2
        exact ⟨u', l1, vr_renX j1 l2⟩
    · intro b1 b2 B1 B2 e1 e2 _ hB1 _ _ _ hrw
      rw [(hu.blk b1 B1 hB1).1] at hrw; cases hrw
    · intro g hg
      obtain ⟨e, h1, h2⟩ := hr.glob g hg
      exact ⟨e, by simp only [if_pos (Nat.lt_of_lt_of_le hg hu.le), hu.gl g hg]; exact h1, h2⟩
  refine (h _ _ _ args' w r0 (vrs_renX ha hargs)).mono ?_
  rintro e w' ⟨s', ae, aw', _, hrel, her, hq, _⟩
  subst hq
  exact ⟨s, .returned v, aw, Inj.le_refl s, hr.later hrel.below, plain_ER hv her, rfl, rfl⟩
structure AsX (n : Nat) (ren : Nat → Nat) (aw : AW) (p : Nat × List Value × TypeId × Nat) : Prop where
  lt : p.1 < n
  ok : p.2.1.all (okX n) = true
  blk : ∃ js rw fz, aw.m (ren p.1) = some ⟨p.2.1.map (rnX ren) ++ js, p.2.2.1, p.2.2.2, rw, fz⟩ ∧ (p.2.2.2 = 0 → js = [])
theorem run_renX {P : Program} {X : Exts} {tab : Nat → Tab} {n d nx : Nat} {l : List (Nat × List Value × TypeId × Nat)} {ren : Nat → Nat} (hX : ExtOk P X) (hm : P.follows .mixedOrders = true) {f : FuncId} {args args' : List Value} {M' : Mem} {v : Value}
    (hrun : callN P X tab n d f args (memR nx l) = some (.returned v, M')) (hG : P.globals.size ≤ nx) (hren : ∀ g, g < P.globals.size → ren g = g) {aw : AW} (hl : ∀ p ∈ l, AsX nx ren aw p)
    (ha : args.all (okX nx) = true) (ha' : args.map (rnX ren) = args') (hv : plain v = true) {α : Type} {sh : α → Value} {r : α} (hs : v = sh r) {Q : α → AW → Prop} {E : List PanicEntry → AW → Prop} (hQ : Q r aw) : CallP P f args' aw sh Q E := by
  subst ha'
  have hu : UnderX P.globals.size ren (memR nx l).abs aw := by
    refine ⟨hG, hren, fun b hb => ?_, fun b B hB => ?_⟩
    · cases hB : (memR nx l).abs.m b with
      | none => rfl
      | some B =>
        obtain ⟨p, hp, rfl, _⟩ := memR_abs l b B hB
        have := (hl p hp).lt
        have hb' : nx ≤ p.1 := hb
        omega
    · obtain ⟨p, hp, rfl, rfl⟩ := memR_abs l b B hB
      obtain ⟨h1, h2, js, rw, fz, h3, h4⟩ := hl p hp
      refine ⟨rfl, _, h3, rfl, rfl, fun h0 => ?_, fun i u hi => ?_⟩
      · simp [h4 h0]
      · have hlt : i < p.2.1.length := (List.getElem?_eq_some_iff.1 hi).1
        refine ⟨List.all_eq_true.1 h2 u (List.mem_of_getElem? hi), ?_⟩
        show (p.2.1.map (rnX ren) ++ js)[i]? = _
        rw [List.getElem?_append_left (by simpa using hlt), List.getElem?_map, hi]
        rfl
  refine ACalls.mono (acalls_renX hu ha hv (callN_spec hX hm d f args (memR nx l) _ _ hrun)) fun e aw' he => ?_
  obtain ⟨rfl, rfl⟩ := he
  exact ⟨r, hs, hQ⟩
end Go.Ri
set_option linter.unusedSimpArgs false
set_option linter.unusedVariables false
set_option linter.unusedSectionVars false
namespace Go.Ri
open Go Go.Am Go.RowKit
noncomputable def cellsD {H : Type} (P : Program) : Nat → TypeId → DataW H → Option (List Value)
  | 0, _, _ => none
  | m + 1, t, d => match P.underlying t, d with
    | some .bool, .lit (.bool b) => some [.bool b]
    | some (.int k), .lit (.int k' n) => if k' = k then some [.int k n] else none
    | some .string, .lit (.string l) => some [.string ⟨⟨l⟩⟩]
    | some (.array n e), .agg ds => if ds.length = n ∧ P.cellsOf t = n * P.cellsOf e then all m e ds else none
    | _, _ => none
where
  all {H : Type} (m : Nat) (e : TypeId) : List (DataW H) → Option (List Value)
  | [] => some []
  | d :: r => match cellsD P m e d, all m e r with
    | some a, some b => if a.length = P.cellsOf e then some (a ++ b) else none
    | _, _ => none
theorem cellsD_spec {H : Type} {enc : TypeId × Value → H} {P : Program} {w : World} {base : Nat} {spare : Nat → Bool} {held : Bool} : ∀ {m fuel : Nat} {t : TypeId} {d : DataW H} {l cs : List Value} {p : List MemPlace}, cellsD P m t d = some l →
    DataW.trod enc P w base spare held fuel t cs = some (d, p) → cs = l
  | 0, _, _, _, _, _, _, h, _ => by simp [cellsD] at h
  | m + 1, fuel, t, d, l, cs, p, h, hd => by
    unfold cellsD at h
    split at h
    · rename_i b hu
      simp only [Option.some.injEq] at h; subst h
      obtain ⟨b', rfl, e⟩ := DataW.trod_bool hu hd
      simp only [Prod.mk.injEq, DataW.lit.injEq, Lit.bool.injEq] at e
      rw [e.1]
    · rename_i k k' n hu
      split at h
      · rename_i hk; subst hk
        simp only [Option.some.injEq] at h; subst h
        obtain ⟨b', rfl, e, _⟩ := DataW.trod_int hu hd
        simp only [Prod.mk.injEq, DataW.lit.injEq, Lit.int.injEq, true_and] at e
        rw [e.1]
      · cases h
    · rename_i s hu
      simp only [Option.some.injEq] at h; subst h
      obtain ⟨b', rfl, e, _⟩ := DataW.trod_string hu hd
      simp only [Prod.mk.injEq, DataW.lit.injEq, Lit.string.injEq] at e
      rw [e.1]
    · rename_i n e ds hu
      split at h
      · rename_i hn
        obtain ⟨hn1, hn2⟩ := hn
        obtain ⟨xs, q, rfl, hx, hlen, hxn, hel⟩ := DataW.trod_array hu hd
        simp only [Prod.mk.injEq, DataW.agg.injEq] at hx
        have key : ∀ (ds : List (DataW H)) (cs l : List Value), (∀ i d, ds[i]? = some d → ∃ p, DataW.trod enc P w base spare held q e ((cs.drop (i * P.cellsOf e)).take (P.cellsOf e)) = some (d, p)) → cs.length = ds.length * P.cellsOf e →
            cellsD.all P m e ds = some l → cs = l := by
          intro ds
          induction ds with
          | nil =>
            intro cs l _ hl ha
            simp only [cellsD.all, Option.some.injEq] at ha
            simp at hl
            rw [← ha, hl]
          | cons d r ih =>
            intro cs l hh hl ha
            rw [cellsD.all] at ha
            split at ha
            · rename_i a b h1 h2
              split at ha
              · rename_i hal
                simp only [Option.some.injEq] at ha
                subst ha
                obtain ⟨p0, e0⟩ := hh 0 d rfl
                simp only [Nat.zero_mul, List.drop_zero] at e0
                have ea := cellsD_spec h1 e0
                have eb := ih (cs.drop (P.cellsOf e)) b (fun i d' hd' => by
                  obtain ⟨p', e'⟩ := hh (i + 1) d' (by simpa using hd')
                  rw [Nat.add_mul, Nat.one_mul, Nat.add_comm, ← List.drop_drop] at e'
                  exact ⟨p', e'⟩) (by rw [List.length_drop, hl, List.length_cons, Nat.add_mul]; omega) h2
                rw [← ea, ← eb, List.take_append_drop]
              · cases ha
            · cases ha
        refine key ds cs l (fun i d' hd' => ?_) (by rw [hlen, hn2, hn1]) h
        have hi : i < n := by
          have := (List.getElem?_eq_some_iff.1 hd').1
          omega
        have := hel i hi
        rw [hx.1, List.getElem?_map] at hd'
        cases hxi : xs[i]? with
        | none => rw [hxi] at hd'; cases hd'
        | some x =>
          rw [hxi] at hd' this
          simp only [Option.map_some, Option.some.injEq] at hd'
          obtain ⟨x1, x2⟩ := x
          simp only at hd'
          subst hd'
          exact ⟨x2, this⟩
      · cases h
    · cases h
variable [SymE]
theorem laid_cells {P : Program} {W : World} {L : List (String × DataW Unit)} {ps : List MemPlace} (hL : DataW.LaidVars P W L ps) {n : String} {d : DataW Unit} (hm : (n, d) ∈ L) {g t m : Nat} {cells : List Value}
    (hg : P.globalNamed n = some g) (ht : (P.globals[g]?).map (·.type) = some t) (hc : cellsD P m t d = some cells) : ∃ t1 cs fz, W.heap[g]? = some (.cells cs t1 fz) ∧ cs.toList = cells := by
  obtain ⟨g', t', cs, fuel, p, h1, h2, h3, h4⟩ := laid_get hL n d hm
  obtain rfl := Option.some.inj (hg.symm.trans h1)
  obtain rfl := Option.some.inj (ht.symm.trans h2)
  obtain ⟨t1, fz, h5⟩ := var_heap hg h3
  exact ⟨t1, cs, fz, h5, cellsD_spec hc h4⟩
structure Facts where
  bins : List (BinOp × Value × Value × Value) := []
  uns : List (UnOp × Value × Value) := []
  convs : List (IntKind × Value × Value) := []
  lens : List (Value × Value) := []
noncomputable def conv0 (j : IntKind) : Value → Option Value
  | .int _ m => some (.int j (fw j m))
  | _ => none
noncomputable def len0 : Value → Option Value
  | .string ⟨⟨l⟩⟩ => some (.int .i64 (.ofNat l.length))
  | _ => none
structure Facts.ok (F : Facts) : Prop where
  bins : ∀ e ∈ F.bins, bin0 e.1 (den e.2.1) (den e.2.2.1) = some (den e.2.2.2)
  uns : ∀ e ∈ F.uns, un0 e.1 (den e.2.1) = some (den e.2.2)
  convs : ∀ e ∈ F.convs, conv0 e.1 (den e.2.1) = some (den e.2.2)
  lens : ∀ e ∈ F.lens, len0 (den e.1) = some (den e.2)
end Go.Ri
set_option linter.unusedSimpArgs false
set_option linter.unusedVariables false
set_option linter.unusedSectionVars false
namespace Go.Ri
open Go Go.Am Go.RowKit
end Go.Ri
set_option linter.unusedVariables false
set_option linter.unusedSimpArgs false
namespace Go.Ri
open Go Go.Am
@[reducible] def symOf (l : List (IntKind × Int)) : SymE := ⟨fun i => .int (l.getD i (.i64, 0)).1 (l.getD i (.i64, 0)).2, fun i => .inl ⟨_, _, rfl⟩⟩
end Go.Ri
