/- Messages as bytes: what is laid is read again. -/
import Derived.Test.YtfdfakapkhflcaaBaS5
set_option linter.unusedSectionVars false
set_option linter.unusedSimpArgs false
set_option linter.unusedVariables false
namespace Go.Oc
def encE (e : En) : List UInt8 := encU e.term ++ (encU e.session ++ (encU e.number ++ encB e.cell))
def encEs (l : List En) : List UInt8 := l.flatMap encE
def bn1 (b : Bool) : Nat := if b then 1 else 0
def encH (m : Ms) : List UInt8 := encU m.kind ++ (encU (zig m.frm) ++ (encU (zig m.to) ++ (encU m.term ++ (encU m.index ++ (encU m.lterm ++ (encU m.commit ++ encU (bn1 m.ok)))))))
def encM (m : Ms) : List UInt8 := encH m ++ (encU m.es.length ++ (encEs m.es ++ encB m.data))
structure EnOk (e : En) : Prop where
  t : e.term < 2 ^ 64
  s : e.session < 2 ^ 64
  n : e.number < 2 ^ 64
  c : e.cell.length ≤ 4000
structure MsOk (m : Ms) : Prop where
  k : m.kind < 256
  f1 : -9223372036854775808 ≤ m.frm
  f2 : m.frm < 9223372036854775808
  t1 : -9223372036854775808 ≤ m.to
  t2 : m.to < 9223372036854775808
  te : m.term < 2 ^ 64
  ix : m.index < 2 ^ 64
  lt : m.lterm < 2 ^ 64
  cm : m.commit < 2 ^ 64
  es : m.es.length ≤ 50
  ee : ∀ e ∈ m.es, EnOk e
  d : m.data.length ≤ 5000
theorem decE_enc {e : En} (h : EnOk e) (r : List UInt8) : decE (some (encE e ++ r)) = (e, some r) := by
  unfold decE encE
  simp only [List.append_assoc]
  rw [rU_enc h.t]
  simp only
  rw [rU_enc h.s]
  simp only
  rw [rU_enc h.n]
  simp only
  rw [rB_enc (Nat.lt_of_le_of_lt h.c (by decide)) h.c]
theorem decEs_enc : ∀ (l : List En) (r : List UInt8), (∀ e ∈ l, EnOk e) → decEs l.length (some (encEs l ++ r)) = (l, some r)
  | [], r, _ => rfl
  | e :: l, r, h => by
    have e1 : encEs (e :: l) ++ r = encE e ++ (encEs l ++ r) := by simp [encEs]
    rw [e1]
    show ((decE (some (encE e ++ (encEs l ++ r)))).1 :: (decEs l.length (decE (some (encE e ++ (encEs l ++ r)))).2).1, (decEs l.length (decE (some (encE e ++ (encEs l ++ r)))).2).2) = _
    rw [decE_enc (h e (List.mem_cons_self ..))]
    simp only
    rw [decEs_enc l r (fun x hx => h x (List.mem_cons_of_mem _ hx))]
theorem decM_enc {m : Ms} (h : MsOk m) : decZ (encM m) = (m, 0) := by
  obtain ⟨hk, hf1, hf2, ht1, ht2, hte, hix, hlt, hcm, hes, hee, hd⟩ := h
  have h1 : rUp 255 (some (encM m)) = (m.kind, some (encU (zig m.frm) ++ (encU (zig m.to) ++ (encU m.term ++ (encU m.index ++ (encU m.lterm ++ (encU m.commit ++ (encU (bn1 m.ok) ++ (encU m.es.length ++ (encEs m.es ++ encB m.data)))))))))) := by
    unfold encM encH
    simp only [List.append_assoc]
    exact rUp_enc (by omega) (by omega) _
  have h2 : rI (s1 (encM m)) = (m.frm, some (encU (zig m.to) ++ (encU m.term ++ (encU m.index ++ (encU m.lterm ++ (encU m.commit ++ (encU (bn1 m.ok) ++ (encU m.es.length ++ (encEs m.es ++ encB m.data))))))))) := by
    unfold s1; rw [h1]; exact rI_enc hf1 hf2 _
  have h3 : rI (s2 (encM m)) = (m.to, some (encU m.term ++ (encU m.index ++ (encU m.lterm ++ (encU m.commit ++ (encU (bn1 m.ok) ++ (encU m.es.length ++ (encEs m.es ++ encB m.data)))))))) := by
    unfold s2; rw [h2]; exact rI_enc ht1 ht2 _
  have h4 : rU (s3 (encM m)) = (m.term, some (encU m.index ++ (encU m.lterm ++ (encU m.commit ++ (encU (bn1 m.ok) ++ (encU m.es.length ++ (encEs m.es ++ encB m.data))))))) := by
    unfold s3; rw [h3]; exact rU_enc hte _
  have h5 : rU (s4 (encM m)) = (m.index, some (encU m.lterm ++ (encU m.commit ++ (encU (bn1 m.ok) ++ (encU m.es.length ++ (encEs m.es ++ encB m.data)))))) := by
    unfold s4; rw [h4]; exact rU_enc hix _
  have h6 : rU (s5 (encM m)) = (m.lterm, some (encU m.commit ++ (encU (bn1 m.ok) ++ (encU m.es.length ++ (encEs m.es ++ encB m.data))))) := by
    unfold s5; rw [h5]; exact rU_enc hlt _
  have h7 : rU (s6 (encM m)) = (m.commit, some (encU (bn1 m.ok) ++ (encU m.es.length ++ (encEs m.es ++ encB m.data)))) := by
    unfold s6; rw [h6]; exact rU_enc hcm _
  have hb : bn1 m.ok ≤ 1 := by unfold bn1; split <;> omega
  have h8 : rUp 1 (s7 (encM m)) = (bn1 m.ok, some (encU m.es.length ++ (encEs m.es ++ encB m.data))) := by
    unfold s7; rw [h7]; exact rUp_enc (by omega) hb _
  have h9 : rUp 65536 (s8 (encM m)) = (m.es.length, some (encEs m.es ++ encB m.data)) := by
    unfold s8; rw [h8]; exact rUp_enc (by omega) (by omega) _
  have h10 : sE (encM m) = (m.es, some (encB m.data)) := by
    unfold sE s9; rw [h9]; exact decEs_enc m.es _ hee
  have h11 : rB 1048576 (sE (encM m)).2 = (m.data, some []) := by
    rw [h10]
    have := rB_enc (l := m.data) (most := 1048576) (by omega) (by omega) []
    rwa [List.append_nil] at this
  unfold decZ
  rw [if_pos (by rw [h11])]
  unfold decM
  rw [h1, h2, h3, h4, h5, h6, h7, h8, h11, h10]
  have : decide (bn1 m.ok = 1) = m.ok := by unfold bn1; cases m.ok <;> rfl
  simp only [this]
theorem decA_enc {m : Ms} (h : MsOk m) : decA (sealB (encM m)) = (m, 0) := by
  unfold decA
  rw [if_neg (by rw [open_seal]; decide), seal_len, Nat.add_sub_cancel]
  have : (sealB (encM m)).take (encM m).length = encM m := by unfold sealB; rw [List.take_left]
  rw [this, decM_enc h]
theorem encE_len {e : En} (h : EnOk e) : (encE e).length ≤ 4036 := by
  have h1 := encU_len h.t
  have h2 := encU_len h.s
  have h3 := encU_len h.n
  have h4 := encU_len (n := e.cell.length) (Nat.lt_of_le_of_lt h.c (by decide))
  have h5 := h.c
  simp only [encE, encB, List.length_append]
  omega
theorem encEs_len : ∀ {l : List En}, (∀ e ∈ l, EnOk e) → (encEs l).length ≤ 4036 * l.length
  | [], _ => Nat.le_refl _
  | e :: l, h => by
    have h1 := encE_len (h e (List.mem_cons_self ..))
    have h2 := encEs_len (l := l) (fun x hx => h x (List.mem_cons_of_mem _ hx))
    have e1 : encEs (e :: l) = encE e ++ encEs l := by simp [encEs]
    rw [e1, List.length_append, List.length_cons]
    omega
theorem encH_len {m : Ms} (h : MsOk m) : (encH m).length ≤ 72 := by
  have h1 := encU_len (n := m.kind) (Nat.lt_trans h.k (by decide))
  have h2 := encU_len (zig_lt h.f1 h.f2)
  have h3 := encU_len (zig_lt h.t1 h.t2)
  have h4 := encU_len h.te
  have h5 := encU_len h.ix
  have h6 := encU_len h.lt
  have h7 := encU_len h.cm
  have h8 : (encU (bn1 m.ok)).length ≤ 9 := encU_len (by unfold bn1; split <;> decide)
  simp only [encH, List.length_append]
  omega
theorem encM_len {m : Ms} (h : MsOk m) : (encM m).length ≤ 300000 := by
  have h1 := encH_len h
  have h2 := encEs_len h.ee
  have h3 := encU_len (n := m.es.length) (Nat.lt_of_le_of_lt h.es (by decide))
  have h4 := encU_len (n := m.data.length) (Nat.lt_of_le_of_lt h.d (by decide))
  have h5 := h.es
  have h6 := h.d
  simp only [encM, encB, List.length_append]
  omega
end Go.Oc
