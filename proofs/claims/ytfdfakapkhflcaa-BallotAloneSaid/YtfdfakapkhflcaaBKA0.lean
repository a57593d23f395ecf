/- BallotAlone: from the row's world. -/
import Derived.Test.YtfdfakapkhflcaaBK0
import Derived.Test.YtfdfakapkhflcaaVd1
set_option linter.unusedSectionVars false
set_option linter.unusedSimpArgs false
set_option linter.unusedVariables false
namespace Go.Proofs.Ytfdfakapkhflcaa
open Go.ChangeShapes Go.WideShapes Go.ChangeAt Go.RowKit Go.Am Go.Ri Go.Oc
def cellTypes : List TypeId := [5, 22, 3, 25]
theorem cellOk : okTypes Try.prog cellTypes = true := by kernel_rfl
theorem und22 : Try.prog.underlying 22 = some (.slice 25) := by kernel_rfl
theorem und3 : Try.prog.underlying 3 = some (.int .i64) := by kernel_rfl
section
variable [SymE] {aw : AW}
theorem rd_i64 {cs : List Value} (h : Rd Try.prog aw 3 cs) : ∃ n : Int, cs = [.int .i64 n] := by
  obtain ⟨n, rfl, h1, h2⟩ := h.inv_int und3
  exact ⟨n, rfl⟩
theorem rd_u8 {cs : List Value} (h : Rd Try.prog aw 5 cs) : ∃ n : Int, cs = [.int .u8 n] ∧ 0 ≤ n ∧ n < 256 := by
  obtain ⟨n, rfl, h1, h2⟩ := h.inv_int und5
  have h1 : (0 : Int) ≤ n := h1
  have h2 : n ≤ 255 := h2
  exact ⟨n, rfl, h1, by omega⟩
theorem rd_bytes {cs : List Value} (h : Rd Try.prog aw 25 cs) : ∃ v l, cs = [v] ∧ Rws aw [] [] [] v l ∧ one v = true ∧ ∃ q c, v = .slice q l.length c := by
  obtain ⟨v, l, rfl, hb, hl⟩ := h.bytes und25 und5 (by kernel_rfl) (by kernel_rfl)
  refine ⟨v, l, rfl, ?_, ?_, hb.len⟩
  · cases hb with
    | nil => exact fun _ _ _ _ => .of .nil
    | emp => exact Rws.void
    | «at» hb hm =>
      refine (Rs.first (.at hm rfl (by simp [bytesV]) (by rw [List.drop_zero, List.take_of_length_le (by simp [bytesV])]) (fun h => absurd h (Nat.lt_irrefl _))) fun b off n c e => ?_).w
      injection e with e1 e2 e3
      injection e1 with e1
      injection e1 with e1 e4
      subst e1
      exact ⟨hb, by simp⟩
  · cases hb <;> rfl
theorem rdl_cs : ∀ (n : Nat) (cells : List Value), RdL Try.prog aw (List.replicate n 25) cells → ∃ bss : List (List UInt8), bss.length = n ∧ ∀ (i : Nat) (bs : List UInt8), bss[i]? = some bs → ∃ v, cells[i]? = some v ∧ Rws aw [] [] [] v bs ∧ one v = true ∧ ∃ q c, v = .slice q bs.length c
  | 0, cells, h => by
    obtain rfl := h.inv_nil
    exact ⟨[], rfl, fun i bs he => by cases he⟩
  | n + 1, cells, h => by
    obtain ⟨c1, c2, rfl, h1, h2⟩ := RdL.inv_cons (show RdL Try.prog aw (25 :: List.replicate n 25) cells from h)
    obtain ⟨v, l, rfl, h3, h4, h5⟩ := rd_bytes h1
    obtain ⟨bss, e1, e2⟩ := rdl_cs n c2 h2
    refine ⟨l :: bss, by simp [e1], fun i bs he => ?_⟩
    cases i with
    | zero =>
      simp only [List.getElem?_cons_zero, Option.some.injEq] at he
      subst he
      exact ⟨v, rfl, h3, h4, h5⟩
    | succ i =>
      obtain ⟨v', k1, k2⟩ := e2 i bs (by simpa using he)
      exact ⟨v', by simpa using k1, k2⟩
theorem rd_cells {cs : List Value} (h : Rd Try.prog aw 22 cs) : ∃ v bss, cs = [v] ∧ Try.CsS aw [] [] v bss := by
  rcases h.inv_slice und22 with rfl | ⟨b, rfl, hlt⟩ | ⟨b, len, el, cells, rfl, hlt, hm, hn, hl, hr⟩
  · exact ⟨_, [], rfl, .nil⟩
  · exact ⟨_, [], rfl, .emp⟩
  · obtain ⟨bss, rfl, e2⟩ := rdl_cs len cells hr
    exact ⟨_, bss, rfl, .at (fun aw' L M => ⟨_, (M.keep _ hlt (by simp)).trans hm, fun i v hv => by simpa using hv⟩) e2⟩
end
theorem walkAlone {H : Type} {enc : TypeId × Value → H} {w : World} {vs : List Value} {ds : List (DataW H)} {ps : List MemPlace} (hA : DataW.TrodAll enc Try.prog w 0 (fun _ => true) true [5, 22, 3] vs ds ps)
    (hw : (DataW.weightsEach Try.prog [5, 22, 3] ds).all (· ≤ reachBytes) = true) (hv : ∀ (j : Nat) t v, [5, 22, 3][j]? = some t → vs[j]? = some v → ∃ base, Value.okWide Try.prog w .any base t v) :
    Calls Try.prog 3 vs.toArray w fun e w' => e = .returned (.bool true) ∧ Below w.heap.size w w' := by
  letI : SymE := symW
  obtain ⟨s, aw, vs', hr, hG, ha, hvs⟩ := args_rel cellOk (by kernel_rfl) hA hw hv
  obtain ⟨v1, r, rfl, h1, ha⟩ := ha.cons
  obtain ⟨v2, r, rfl, h2, ha⟩ := ha.cons
  obtain ⟨v3, r, rfl, h3, ha⟩ := ha.cons
  obtain rfl := ha.nil
  obtain ⟨n1, e1, b1, b2⟩ := rd_u8 (h1.rd1 (by kernel_rfl))
  obtain ⟨cv, bss, e2, hcs⟩ := rd_cells (h2.rd1 (by kernel_rfl))
  obtain ⟨n3, e3⟩ := rd_i64 (h3.rd1 (by kernel_rfl))
  obtain rfl := List.cons.inj e1 |>.1
  obtain rfl := List.cons.inj e2 |>.1
  obtain rfl := List.cons.inj e3 |>.1
  exact calls_true (fun b => rfl) (Try.alone_x awk hG b1 b2 hcs) hr hvs
end Go.Proofs.Ytfdfakapkhflcaa
