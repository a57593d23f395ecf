/- BallotCodes: from the row's world. -/
import Derived.Test.YtfdfakapkhflcaaBK0
import Derived.Test.YtfdfakapkhflcaaBaE3
set_option linter.unusedSectionVars false
set_option linter.unusedSimpArgs false
set_option linter.unusedVariables false
namespace Go.Proofs.Ytfdfakapkhflcaa
open Go.ChangeShapes Go.WideShapes Go.ChangeAt Go.RowKit Go.Am Go.Ri Go.Oc
def msgTypes : List TypeId := [43, 5, 3, 24, 4, 26, 25, 40]
theorem msgOk : okTypes Try.prog msgTypes = true := by kernel_rfl
noncomputable def fsOf (t : TypeId) : Array Field := match Try.prog.underlying t with
  | some (.struct fs) => fs
  | _ => #[]
theorem und43 : ∃ fs, Try.prog.underlying 43 = some (.struct fs) ∧ fs.toList.map (·.type) = [5, 3, 3, 24, 24, 24, 24, 4, 26, 25] := ⟨fsOf 43, by kernel_rfl, by kernel_rfl⟩
theorem und40 : ∃ fs, Try.prog.underlying 40 = some (.struct fs) ∧ fs.toList.map (·.type) = [24, 24, 24, 25] := ⟨fsOf 40, by kernel_rfl, by kernel_rfl⟩
theorem und24 : Try.prog.underlying 24 = some (.int .u64) := by kernel_rfl
theorem und3 : Try.prog.underlying 3 = some (.int .i64) := by kernel_rfl
theorem und4 : Try.prog.underlying 4 = some .bool := by kernel_rfl
theorem und26 : Try.prog.underlying 26 = some (.slice 40) := by kernel_rfl
theorem cells40 : Try.prog.cellsOf 40 = 4 := by kernel_rfl
theorem bytes40 : Try.prog.bytesOf 40 = 48 := by kernel_rfl
section
variable [SymE] {aw : AW}
theorem rd_u64 {cs : List Value} (h : Rd Try.prog aw 24 cs) : ∃ n : Nat, cs = [.int .u64 n] ∧ n < 2 ^ 64 := by
  obtain ⟨n, rfl, h1, h2⟩ := h.inv_int und24
  have h1 : (0 : Int) ≤ n := h1
  have h2 : n ≤ 18446744073709551615 := h2
  exact ⟨n.toNat, by rw [Int.toNat_of_nonneg h1], by omega⟩
theorem rd_i64 {cs : List Value} (h : Rd Try.prog aw 3 cs) : ∃ n : Int, cs = [.int .i64 n] ∧ -9223372036854775808 ≤ n ∧ n < 9223372036854775808 := by
  obtain ⟨n, rfl, h1, h2⟩ := h.inv_int und3
  have h1 : (-9223372036854775808 : Int) ≤ n := h1
  have h2 : n ≤ 9223372036854775807 := h2
  exact ⟨n, rfl, h1, by omega⟩
theorem rd_u8 {cs : List Value} (h : Rd Try.prog aw 5 cs) : ∃ n : Nat, cs = [.int .u8 n] ∧ n < 256 := by
  obtain ⟨n, rfl, h1, h2⟩ := h.inv_int und5
  have h1 : (0 : Int) ≤ n := h1
  have h2 : n ≤ 255 := h2
  exact ⟨n.toNat, by rw [Int.toNat_of_nonneg h1], by omega⟩
theorem rd_bytes {cs : List Value} (h : Rd Try.prog aw 25 cs) : ∃ v l, cs = [v] ∧ Rws aw [] [] [] v l ∧ one v = true ∧ l.length < 2 ^ 60 ∧ ∃ q c, v = .slice q l.length c := by
  obtain ⟨v, l, rfl, hb, hl⟩ := h.bytes und25 und5 (by kernel_rfl) (by kernel_rfl)
  have hr : reachBytes < 2 ^ 60 := by decide
  refine ⟨v, l, rfl, ?_, ?_, by omega, hb.len⟩
  · cases hb with
    | nil => exact fun _ _ _ _ => .of .nil
    | emp => exact Rws.void
    | «at» hb hm =>
      refine (Rs.first (.at hm rfl (by simp [bytesV]) (by rw [List.drop_zero, List.take_of_length_le (by simp [bytesV])]) (fun h => absurd h (Nat.lt_irrefl _))) fun b off n c e => ?_).w
      injection e with e1 e2 e3
      injection e1 with e1
      injection e1 with e1 e4
      subst e1
      exact ⟨hb, by simp⟩
  · cases hb <;> rfl
theorem rdl_en : ∀ (n : Nat) (cells : List Value), RdL Try.prog aw (List.replicate n 40) cells → ∃ es : List En, es.length = n ∧ EnR (Rws aw [] [] []) es cells ∧ ∀ e ∈ es, e.term < 2 ^ 64 ∧ e.session < 2 ^ 64 ∧ e.number < 2 ^ 64 ∧ e.cell.length < 2 ^ 60
  | 0, cells, h => by
    obtain rfl := h.inv_nil
    exact ⟨[], rfl, .nil, fun e he => by cases he⟩
  | n + 1, cells, h => by
    obtain ⟨c1, c2, rfl, h1, h2⟩ := RdL.inv_cons (show RdL Try.prog aw (40 :: List.replicate n 40) cells from h)
    obtain ⟨fs, hu, hts⟩ := und40
    have h1 := h1.inv_struct hu
    rw [hts] at h1
    obtain ⟨a1, r1, rfl, k1, h1⟩ := h1.inv_cons
    obtain ⟨a2, r2, rfl, k2, h1⟩ := h1.inv_cons
    obtain ⟨a3, r3, rfl, k3, h1⟩ := h1.inv_cons
    obtain ⟨a4, r4, rfl, k4, h1⟩ := h1.inv_cons
    obtain rfl := h1.inv_nil
    obtain ⟨x1, rfl, b1⟩ := rd_u64 k1
    obtain ⟨x2, rfl, b2⟩ := rd_u64 k2
    obtain ⟨x3, rfl, b3⟩ := rd_u64 k3
    obtain ⟨cv, l, rfl, hR, ho, hl, _⟩ := rd_bytes k4
    obtain ⟨es, e1, e2, e3⟩ := rdl_en n c2 h2
    refine ⟨⟨x1, x2, x3, l⟩ :: es, by simp [e1], ?_, fun e he => ?_⟩
    · have := EnR.cons (rd := Rws aw [] [] []) (e := ⟨x1, x2, x3, l⟩) hR ho e2
      simpa using this
    · rcases List.mem_cons.1 he with rfl | he
      · exact ⟨b1, b2, b3, hl⟩
      · exact e3 e he
theorem rd_entries {cs : List Value} (h : Rd Try.prog aw 26 cs) : ∃ v es, cs = [v] ∧ EsS aw [] [] [] v es ∧ one v = true ∧ es.length < 2 ^ 60 ∧ ∀ e ∈ es, e.term < 2 ^ 64 ∧ e.session < 2 ^ 64 ∧ e.number < 2 ^ 64 ∧ e.cell.length < 2 ^ 60 := by
  rcases h.inv_slice und26 with rfl | ⟨b, rfl, hlt⟩ | ⟨b, len, el, cells, rfl, hlt, hm, hn, hl, hr⟩
  · exact ⟨_, [], rfl, .nil, rfl, by decide, fun e he => by cases he⟩
  · exact ⟨_, [], rfl, .emp, rfl, by decide, fun e he => by cases he⟩
  · obtain ⟨es, rfl, e2, e3⟩ := rdl_en len cells hr
    have hrb : reachBytes < 2 ^ 60 := by decide
    rw [bytes40] at hl
    refine ⟨_, es, rfl, .at (fun aw' L M _ => ⟨_, (M.keep _ hlt (by simp)).trans hm, fun i v hv => by simpa using hv⟩) e2, rfl, by omega, e3⟩
end
theorem walkCodes {H : Type} {enc : TypeId × Value → H} {w : World} {vs : List Value} {ds : List (DataW H)} {ps : List MemPlace} (hA : DataW.TrodAll enc Try.prog w 0 (fun _ => true) true [43] vs ds ps)
    (hw : (DataW.weightsEach Try.prog [43] ds).all (· ≤ reachBytes) = true) (hv : ∀ (j : Nat) t v, [43][j]? = some t → vs[j]? = some v → ∃ base, Value.okWide Try.prog w .any base t v) :
    Calls Try.prog 5 vs.toArray w fun e w' => e = .returned (.bool true) ∧ Below w.heap.size w w' := by
  letI : SymE := symW
  obtain ⟨s, aw, vs', hr, hG, ha, hvs⟩ := args_rel msgOk (by kernel_rfl) hA hw hv
  obtain ⟨v1, r, rfl, h1, ha⟩ := ha.cons
  obtain rfl := ha.nil
  obtain ⟨cs, rfl, h2⟩ := h1.rdN (by kernel_rfl)
  clear h1
  obtain ⟨fs, hu, hts⟩ := und43
  have h1 := h2.inv_struct hu
  clear h2
  rw [hts] at h1
  obtain ⟨a1, r1, rfl, k1, h1⟩ := h1.inv_cons
  obtain ⟨a2, r2, rfl, k2, h1⟩ := h1.inv_cons
  obtain ⟨a3, r3, rfl, k3, h1⟩ := h1.inv_cons
  obtain ⟨a4, r4, rfl, k4, h1⟩ := h1.inv_cons
  obtain ⟨a5, r5, rfl, k5, h1⟩ := h1.inv_cons
  obtain ⟨a6, r6, rfl, k6, h1⟩ := h1.inv_cons
  obtain ⟨a7, r7, rfl, k7, h1⟩ := h1.inv_cons
  obtain ⟨a8, r8, rfl, k8, h1⟩ := h1.inv_cons
  obtain ⟨a9, r9, rfl, k9, h1⟩ := h1.inv_cons
  obtain ⟨a10, r10, rfl, k10, h1⟩ := h1.inv_cons
  obtain rfl := h1.inv_nil
  obtain ⟨x1, rfl, b1⟩ := rd_u8 k1
  obtain ⟨x2, rfl, b2, b2'⟩ := rd_i64 k2
  obtain ⟨x3, rfl, b3, b3'⟩ := rd_i64 k3
  obtain ⟨x4, rfl, b4⟩ := rd_u64 k4
  obtain ⟨x5, rfl, b5⟩ := rd_u64 k5
  obtain ⟨x6, rfl, b6⟩ := rd_u64 k6
  obtain ⟨x7, rfl, b7⟩ := rd_u64 k7
  obtain ⟨x8, rfl⟩ := k8.inv_bool und4
  obtain ⟨ev, es, rfl, he, o1, n1, n2⟩ := rd_entries k9
  obtain ⟨dv, l, rfl, hR, o2, hl, hc⟩ := rd_bytes k10
  have := Try.codes_x (m := ⟨x1, x2, x3, x4, x5, x6, x7, x8, es, l⟩) awk hG ⟨b1, b2, b2', b3, b3', b4, b5, b6, b7, n2, n1, hl⟩ he hc hR o1 o2
  exact calls_true (fun b => rfl) this hr (by simpa using hvs)
end Go.Proofs.Ytfdfakapkhflcaa
