/- A sum over bytes (octet.Sum) as a known call: of bytes that are known, or of a list that has symbols. -/
import Derived.Test.YtacnonepegjooaaGreatDoorL5
set_option linter.unusedSimpArgs false
set_option linter.unusedVariables false
set_option linter.unusedSectionVars false
namespace Go.Ri
open Go Go.Am Go.RowKit Go.Oc
variable [SymE]
theorem vr_undn {s : Inj} {u u' : Value} (h : VR s (den u) u') : VR s u u' := by
  unfold den at h
  split at h
  · rename_i i
    rcases SymE.leaf i with ⟨k, n, e⟩ | ⟨x, e⟩
    · rw [e] at h; cases h; rw [← e]; exact .sym i
    · rw [e] at h; cases h; rw [← e]; exact .sym i
  · exact h
def denA (aw : AW) : AW := { aw with m := fun b => (aw.m b).map fun B => { B with cells := B.cells.map den } }
theorem denA_get {aw : AW} {b : Nat} {B : Blk} (h : aw.m b = some B) : (denA aw).m b = some { B with cells := B.cells.map den } := by simp [denA, h]
theorem denA_inv {aw : AW} {b : Nat} {B : Blk} (h : (denA aw).m b = some B) : ∃ B0, aw.m b = some B0 ∧ B = { B0 with cells := B0.cells.map den } := by
  simp only [denA, Option.map_eq_some_iff] at h
  obtain ⟨B0, h1, h2⟩ := h
  exact ⟨B0, h1, h2.symm⟩
theorem Rel.denA {G : Nat} {base : Nat → Prop} {w0 w : World} {s : Inj} {aw : AW} (h : Rel G base w0 s aw w) : Rel G base w0 s (denA aw) w := by
  refine ⟨h.fresh, fun b hb => ?_, fun b B hB => ?_, fun b1 b2 B1 B2 e1 e2 hne h1 h2 k1 k2 hrw => ?_, h.hbase, h.glob, h.below, h.maps.to rfl (Nat.le_refl _) fun _ _ _ hk => hk⟩
  · show (aw.m b).map _ = none
    rw [h.mfresh b hb]; rfl
  · obtain ⟨B0, h0, rfl⟩ := denA_inv hB
    obtain ⟨e, cs, fz, g1, g2, g3, g4, g5, g6, g7⟩ := h.blk b B0 h0
    refine ⟨e, cs, fz, g1, ⟨g2.1, g2.2.1, fun hz => ⟨(g2.2.2 hz).1, by simpa using (g2.2.2 hz).2⟩⟩, g3, g4, by simpa using g5, fun i v hi => ?_, g7⟩
    simp only [List.getElem?_map, Option.map_eq_some_iff] at hi
    obtain ⟨u, hu, rfl⟩ := hi
    obtain ⟨v', k1, k2⟩ := g6 i u hu
    exact ⟨v', k1, vr_den k2⟩
  · obtain ⟨C1, c1, rfl⟩ := denA_inv h1
    obtain ⟨C2, c2, rfl⟩ := denA_inv h2
    exact h.sep b1 b2 C1 C2 e1 e2 hne c1 c2 k1 k2 hrw
theorem Rel.undn {G : Nat} {base : Nat → Prop} {w0 w : World} {s : Inj} {aw : AW} (h : Rel G base w0 s (Ri.denA aw) w) : Rel G base w0 s aw w := by
  refine ⟨h.fresh, fun b hb => ?_, fun b B hB => ?_, fun b1 b2 B1 B2 e1 e2 hne h1 h2 k1 k2 hrw => ?_, h.hbase, h.glob, h.below, h.maps.to rfl (Nat.le_refl _) fun _ _ _ hk => hk⟩
  · have := h.mfresh b hb
    simpa [Ri.denA] using this
  · obtain ⟨e, cs, fz, g1, g2, g3, g4, g5, g6, g7⟩ := h.blk b _ (denA_get hB)
    refine ⟨e, cs, fz, g1, ⟨g2.1, g2.2.1, fun hz => ⟨(g2.2.2 hz).1, by simpa using (g2.2.2 hz).2⟩⟩, g3, g4, by simpa using g5, fun i v hi => ?_, g7⟩
    obtain ⟨v', k1, k2⟩ := g6 i (den v) (by simp [hi])
    exact ⟨v', k1, vr_undn k2⟩
  · exact h.sep b1 b2 _ _ e1 e2 hne (denA_get h1) (denA_get h2) k1 k2 hrw
theorem acalls_undn {P : Program} {f : FuncId} {args : List Value} {aw : AW} {v : Value} (h : ACalls P f args (denA aw) fun e aw' => e = .returned v ∧ aw' = denA aw) : ACalls P f args aw fun e aw' => e = .returned v ∧ aw' = aw := by
  intro base w0 s args' w hr hargs
  refine (h base w0 s args' w (Rel.denA hr) hargs).mono ?_
  rintro e w' ⟨s', ae, aw', h1, h2, h3, rfl, rfl⟩
  exact ⟨s', .returned v, aw, h1, Rel.undn h2, h3, rfl, rfl⟩
theorem acalls_undv {P : Program} {f : FuncId} {args : List Value} {aw aw1 : AW} {u : Value} (h : ACalls P f args aw fun e aw' => e = .returned (den u) ∧ aw' = aw1) : ACalls P f args aw fun e aw' => e = .returned u ∧ aw' = aw1 := by
  intro base w0 s args' w hr hargs
  refine (h base w0 s args' w hr hargs).mono ?_
  rintro e w' ⟨s', ae, aw', h1, h2, h3, rfl, rfl⟩
  refine ⟨s', .returned u, aw', h1, h2, ?_, rfl, rfl⟩
  cases h3 with
  | returned h => exact .returned (vr_undn h)
noncomputable def fN {R : Type} (n : Nat) (k : Nat → R) : R := Nat.rec (motive := fun _ => R) (k 0) (fun m _ => k (Nat.succ m)) n
theorem fN_eq {R : Type} (n : Nat) (k : Nat → R) : fN n k = k n := by cases n <;> rfl
noncomputable def crnd {R : Type} (c : Nat) (k : Nat → R) : R := fN (Nat.xor (Nat.div c 2) (Nat.mul (Nat.mod c 2) poly)) k
theorem crnd_eq {R : Type} (c : Nat) (k : Nat → R) : crnd c k = k (crcS c) := by
  unfold crnd
  rw [fN_eq]
  congr 1
  show (c / 2) ^^^ (c % 2 * poly) = _
  unfold crcS
  rcases Nat.mod_two_eq_zero_or_one c with h | h <;> simp [h]
noncomputable def crcS1 (ih : Nat → Option Nat) (c : Nat) : Value → Option Nat
  | .int .u8 (.ofNat b) => bif Nat.blt b 256 then crnd (Nat.xor c b) fun c => crnd c fun c => crnd c fun c => crnd c fun c => crnd c fun c => crnd c fun c => crnd c fun c => crnd c ih else none
  | _ => none
noncomputable def crcV (L : List Value) : Nat → Option Nat := List.rec (motive := fun _ => Nat → Option Nat) (fun c => some (Nat.sub 4294967295 c)) (fun v _ ih c => crcS1 ih c v) L
theorem crcV_spec : ∀ {L : List Value} {c k : Nat}, crcV L c = some k → ∃ bs, L = bytesV bs ∧ L.map den = bytesV bs ∧ k = 4294967295 - crcL c bs
  | [], c, k, h => by
    have h : some (4294967295 - c) = some k := h
    exact ⟨[], rfl, rfl, (Option.some.inj h).symm⟩
  | v :: L, c, k, h => by
    change crcS1 (crcV L) c v = some k at h
    unfold crcS1 at h
    split at h; rotate_left; · cases h
    rename_i b
    rw [cond_some] at h
    obtain ⟨hb, h⟩ := h
    have hb : b < 256 := by simpa using hb
    simp only [crnd_eq] at h
    obtain ⟨bs, h1, h2, h3⟩ := crcV_spec h
    have hn : (UInt8.ofNat b).toNat = b := by rw [UInt8.toNat_ofNat']; omega
    refine ⟨UInt8.ofNat b :: bs, ?_, ?_, ?_⟩
    · show _ = Value.int .u8 ((UInt8.ofNat b).toNat : Int) :: bytesV bs
      rw [hn, h1]; rfl
    · show den (.int .u8 (.ofNat b)) :: L.map den = Value.int .u8 ((UInt8.ofNat b).toNat : Int) :: bytesV bs
      rw [hn, h2]; rfl
    · rw [h3]
      show _ = 4294967295 - crcL (crcN 8 (c ^^^ (UInt8.ofNat b).toNat)) bs
      rw [hn]; rfl
noncomputable def orSum (fS : FuncId) (LS : List Value) (c : Nat) (C : Caller) : Caller := fun f args M => bif Nat.beq f fS then (match args with
  | [.slice (some ⟨b, o, none⟩) n cap] => bif Nat.ble n cap && Nat.blt n 17592186044416 then (match M.at b with
    | some B => bif Nat.beq B.esz 1 then (match M.getN b o n with
      | some L => (match crcV L 4294967295 with
        | some k => some (.returned (.int .u32 (.ofNat k)), M)
        | none => bif vEq.lEq (vEq 2) L LS then some (.returned (.map (some c)), M) else none)
      | none => none) else none
    | none => none) else none
  | _ => none) else C f args M
theorem orSum_spec {P : Program} {fS : FuncId} {LS : List Value} {c : Nat} (hS : ∀ (aw : AW) (v : Value) (bs : List UInt8), Rb aw v bs → bs.length < 2 ^ 44 → ACalls P fS [v] aw fun e aw' => e = .returned (.int .u32 ((Oc.sum bs : Nat) : Int)) ∧ aw' = aw)
    (hL : LS ≠ [] → ∃ bs, LS.map den = bytesV bs ∧ SymE.E c = .int .u32 ((Oc.sum bs : Nat) : Int)) {C : Caller} (hC : CS P C) : CS P (orSum fS LS c C) := by
  intro f args M e M' h
  unfold orSum at h
  cases hf : Nat.beq f fS with
  | false => rw [hf] at h; exact hC f args M e M' h
  | true =>
  obtain rfl := Nat.eq_of_beq_eq_true hf
  rw [hf] at h
  simp only [cond_true] at h
  split at h; rotate_left; · cases h
  rename_i b o n cap
  rw [cond_some] at h
  obtain ⟨hn, h⟩ := h
  simp only [Bool.and_eq_true, Nat.ble_eq, Nat.blt_eq] at hn
  split at h; rotate_left; · cases h
  rename_i B hB
  rw [cond_some] at h
  obtain ⟨he, h⟩ := h
  have he := Nat.eq_of_beq_eq_true he
  split at h; rotate_left; · cases h
  rename_i L hg
  have hg' := Mem.getN_spec hg
  have hlen : L.length = n := AW.getN_length hg'
  have hol : o + n ≤ B.abs.cells.length := by
    rw [B.abs_len]
    unfold Mem.getN at hg
    rw [hB] at hg
    simp only at hg
    rw [cond_some] at hg
    simpa using hg.1
  have hLc : (B.abs.cells.drop o).take n = L := by
    have := getN_m (M.abs_m hB) hol
    rw [hg'] at this
    exact (Option.some.inj this).symm
  have key : ∀ bs, L.map den = bytesV bs → ACalls P f [.slice (some ⟨b, o, none⟩) n cap] M.abs fun e aw' => e = .returned (.int .u32 ((Oc.sum bs : Nat) : Int)) ∧ aw' = M.abs := by
    intro bs hbs
    have hl : bs.length = n := by
      have := congrArg List.length hbs
      simp only [List.length_map, bytesV] at this
      omega
    refine acalls_undn (hS _ _ bs ?_ (by rw [hl]; omega))
    subst hl
    refine .at (denA_get (M.abs_m hB)) he (by simpa using hol) ?_ (fun _ => hn.1)
    rw [← List.map_drop, ← List.map_take, hLc, hbs]
  split at h
  · rename_i k hk
    obtain ⟨bs, _, h2, h3⟩ := crcV_spec hk
    simp only [Option.some.injEq, Prod.mk.injEq] at h
    obtain ⟨rfl, rfl⟩ := h
    have e : (Int.ofNat k) = ((Oc.sum bs : Nat) : Int) := by rw [h3]; rfl
    rw [e]
    exact key bs h2
  · rename_i hnone
    rw [cond_some] at h
    obtain ⟨h1, h⟩ := h
    have h1 := lEq_spec (vEq_spec 2) h1
    subst h1
    simp only [Option.some.injEq, Prod.mk.injEq] at h
    obtain ⟨rfl, rfl⟩ := h
    obtain ⟨bs, h2, h3⟩ := hL (fun e => by rw [e] at hnone; cases hnone)
    refine acalls_undv ?_
    show ACalls P f _ _ fun e aw' => e = .returned (SymE.E c) ∧ aw' = M.abs
    rw [h3]
    exact key bs h2
end Go.Ri
