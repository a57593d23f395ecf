/- append of so many zeros. -/
import Derived.Test.YtfoceofohlpafaaDoorAm18
set_option linter.unusedSimpArgs false
set_option linter.unusedVariables false
set_option linter.unusedSectionVars false
namespace Go.Am
open Go Go.RowKit
variable [SymE]
section
variable {P : Program} {ρ : Env} {aw aw' : AW} {o : Oper} {v : Value} {x y : Operand} {at' : Array TypeId} {sT xT el : TypeId} {size bytes l n c : Nat} {z sv : Value}
theorem plains_zeros {z : List Value} (h : plains z = true) : ∀ n, plains (zeros z n) = true
  | 0 => rfl
  | n + 1 => by
    have app : ∀ a b : List Value, plains a = true → plains b = true → plains (a ++ b) = true := by
      intro a
      induction a with
      | nil => intro b _ h; exact h
      | cons x a ih =>
        intro b h1 h2
        simp only [plains, Bool.and_eq_true, List.cons_append] at h1 ⊢
        exact ⟨h1.1, ih b h1.2 h2⟩
    exact app z _ h (plains_zeros h n)
theorem run_append_growsZ (hat : at' = #[sT, xT]) (hu : P.underlying sT = some (.slice el)) (hsz : (P.info? el).map (·.size) = some size) (hby : (P.info? el).map (·.bytes) = some bytes) {k : IntKind} (hxu : P.underlying xT = some (.int k))
    (hz0 : (P.info? el).bind (·.zero) = some z) (hzs : z.cells.size = size) (hb0 : 0 < bytes) (hs0 : 0 < size) (hn0 : 0 < n) {kk : IntKind}
    {w : World} {a : Option Addr} {c' : Nat} {os' : List Value} (hfs : (Builtin.firstCells size l (.slice a l c')).run P w.drew = .ok os'.toArray w.drew)
    (hfit : c' < l + n) (hb : (2 * (l + n) + 768) * bytes ≤ 2 ^ 48) (ty : TypeId) :
    ∃ N, l + n ≤ N ∧ (Builtin.append_ at' ty #[.slice a l c', .int kk (n : Int)]).run P w =
      .ok (.slice (some ⟨w.heap.size, 0, none⟩) (l + n) N) (w.drew.alloc (.cells (os'.toArray ++ (zeros z.cells.toList n).toArray ++ Builtin.zeroCells z.cells (N - (l + n))) el)) := by
  subst hat
  obtain ⟨inf, hinf⟩ : ∃ inf, P.info? el = some inf := by
    cases h : P.info? el with
    | none => simp [h] at hsz
    | some q => exact ⟨q, rfl⟩
  have hbb : inf.bytes = bytes := by simpa [hinf] using hby
  have hcap := nextcap_le (l + n) c' hfit
  have hcap2 : Builtin.nextslicecap (l + n) c' * bytes ≤ 2 ^ 48 := Nat.le_trans (Nat.mul_le_mul_right _ hcap) hb
  have hle : l + n ≤ 2 ^ 48 := by
    have h1 : (2 * (l + n) + 768) * 1 ≤ (2 * (l + n) + 768) * bytes := Nat.mul_le_mul_left _ hb0
    omega
  have hnb : n * bytes ≤ 2 ^ 48 := Nat.le_trans (Nat.mul_le_mul_right _ (by omega)) hb
  have hnb' : ¬ ((n : Int) * (bytes : Int) > 2 ^ 48) := by
    have : ((n * bytes : Nat) : Int) ≤ 2 ^ 48 := by exact_mod_cast hnb
    simp at this ⊢; omega
  have hw : IntKind.i64.wrap (n : Int) = n := IntWalk.i64_in _ (by omega)
  have hzc : Builtin.zeroCells z.cells n = (zeros z.cells.toList n).toArray := by
    apply Array.toList_inj.1
    show ((Array.range (n * z.cells.size)).map (z.cells[· % z.cells.size]!)).toList = _
    rw [madeCells_zeros (by omega) n]
  have hnz : ¬ n * size = 0 := by have := Nat.mul_pos hn0 hs0; omega
  refine ⟨(Question.appendCap (l + n) c' el).cut (w.tape w.drawn (.appendCap (l + n) c' el)), ?_, ?_⟩
  · simp only [Question.cut]; omega
  · simp only [Builtin.append_, List.getElem?_toArray, List.getElem?_cons_zero, List.getElem?_cons_succ, Sem.run_bind, run_underlying hu, Result.andThen_ok, run_sizeOf' hsz, run_underlying hxu, Sem.run_pure,
      if_true, show (asInt (Value.int kk (n : Int)) : Sem Int).run P w = .ok (n : Int) w from rfl, hw]
    rw [if_neg (by omega)]
    simp only [Sem.run_bind, Sem.run_pure, Result.andThen_ok, run_typeInfo w hinf, hbb]
    rw [if_neg hnb']
    simp only [Sem.run_bind, Sem.run_pure, Result.andThen_ok, Int.toNat_natCast]
    rw [if_neg (by omega)]
    simp only [Sem.run_bind, run_typeInfo w hinf, Result.andThen_ok, hbb]
    rw [if_neg (by
      rintro ⟨h, _⟩
      have : IntKind.i64.max = 9223372036854775807 := rfl
      omega)]
    simp only [Sem.run_bind, run_typeInfo w hinf, Result.andThen_ok, hbb]
    rw [if_neg (by omega)]
    simp only [Sem.run_bind, run_choose, Question.forced, Bool.false_eq_true, if_false, Bool.not_true, Result.andThen_ok, World.drew_eq, run_typeInfo _ hinf, run_askRoom, hfs, if_neg hnz, run_zeroValue' hz0, hzc, run_newRow, Sem.run_pure, World.size_drew]
theorem opv_appendZ {k kk : IntKind} (hop : o.op = .call { callee := .builtin .append, args := #[x, y], argTypes := at' }) (hat : at' = #[sT, xT]) (hx : okOpd P.globals.size x = true) (hy : okOpd P.globals.size y = true)
    (hu : P.underlying sT = some (.slice el)) (hsz : (P.info? el).map (·.size) = some size) (hby : (P.info? el).map (·.bytes) = some bytes) (hxu : P.underlying xT = some (.int k))
    (hz0 : (P.info? el).bind (·.zero) = some z) (hzs : z.cells.size = size) (hp : plains z.cells.toList = true) (hb0 : 0 < bytes) (hn0 : 0 < n) {os : List Value}
    (h1 : ρ.eval x = sv) (h2 : ρ.eval y = .int kk (n : Int)) (hos : Src aw size sv l os) (hsl : ∃ q, sv = .slice q l c) (hc : c < UNK) (hfit : c < l + n) (hsz0 : 0 < size)
    (hb : (2 * (l + n) + 768) * bytes ≤ 2 ^ 48) : OpV P o ρ aw (.slice (some ⟨aw.next, 0, none⟩) (l + n) UNK) (aw.alloc (os ++ zeros z.cells.toList n) el size) := by
  intro base w0 s f w hr hf
  obtain ⟨q, rfl⟩ := hsl
  have e1 := hf x hx; rw [h1] at e1
  have e2 := hf y hy; rw [h2] at e2
  obtain ⟨a, c', q1, q2, q3⟩ := e1.sliceAny
  have hcc := q3 hc
  subst hcc
  obtain ⟨_, os', t2, t3⟩ := hos.run (P := P) hr.drew (q1 ▸ e1)
  have r2 : VRs s (zeros z.cells.toList n) (zeros z.cells.toList n) := VRs.ofPlains (plains_zeros hp n)
  obtain ⟨N, hN, hrun⟩ := run_append_growsZ (P := P) (a := a) (c' := c') (l := l) (n := n) (kk := kk) hat hu hsz hby hxu hz0 hzs hb0 hsz0 hn0 t3 hfit hb o.type
  obtain ⟨s', k1, k2, k3⟩ := alloc_append hr.drew t2 r2 el size hsz0 (Builtin.zeroCells z.cells (N - (l + n)))
  refine ⟨_, .slice (some ⟨w.heap.size, 0, none⟩) (l + n) N, _, s', ?_, .inl rfl, k1, k3, .slice hN (fun h => absurd h (by omega)) fun _ => ⟨_, k2, rfl, fun _ => ?_⟩⟩
  · simp only [execOp, hop, resolve, Sem.run_bind, Sem.run_pure, Result.andThen_ok, invoke, builtin, List.map_toArray, List.map_cons, List.map_nil, q1, VR.int_inv e2]
    rw [hrun]; rfl
  · have l1 := t2.length
    rw [hos.length] at l1
    have lz : (zeros z.cells.toList n).length = n * size := by rw [zeros_length, Array.length_toList, hzs]
    simp only [Array.size_append, List.size_toArray, zeroCells_size, hzs, ← l1, lz, Nat.zero_add]
    rw [← Nat.add_mul, ← Nat.add_mul]
    exact Nat.le_of_eq (by congr 1; omega)
end
end Go.Am
