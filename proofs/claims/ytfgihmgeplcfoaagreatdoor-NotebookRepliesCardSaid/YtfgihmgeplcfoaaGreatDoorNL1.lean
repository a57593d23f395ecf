/- NotebookReplies, NotebookReads: from the row's world. -/
import Derived.Test.YtfgihmgeplcfoaaGreatDoorNK0
import Derived.Test.YtfgihmgeplcfoaaGreatDoorL5
set_option linter.unusedSectionVars false
set_option linter.unusedVariables false
set_option linter.unusedSimpArgs false
namespace Go.Proofs.YtfgihmgeplcfoaaGreatDoor
open Go.ChangeShapes Go.WideShapes Go.ChangeAt Go.RowKit Go.Am Go.Ri Go.Oc
set_option maxRecDepth 100000
def oTypes : List TypeId := [26, 22, 3, 9, 23, 29, 24, 52, 4, 2]
theorem oOk : okTypes Tryz.prog oTypes = true := by kernel_rfl
noncomputable def fsOf (t : TypeId) : Array Field := match Tryz.prog.underlying t with
  | some (.struct fs) => fs
  | _ => #[]
theorem und26 : ∃ fs, Tryz.prog.underlying 26 = some (.struct fs) ∧ fs.toList.map (·.type) = [22, 3, 9, 23, 9, 24] := ⟨fsOf 26, by kernel_rfl, by kernel_rfl⟩
theorem und29 : ∃ fs, Tryz.prog.underlying 29 = some (.struct fs) ∧ fs.toList.map (·.type) = [9, 9, 9] := ⟨fsOf 29, by kernel_rfl, by kernel_rfl⟩
theorem und52 : ∃ fs, Tryz.prog.underlying 52 = some (.struct fs) ∧ fs.toList.map (·.type) = [4, 2] := ⟨fsOf 52, by kernel_rfl, by kernel_rfl⟩
theorem und22 : Tryz.prog.underlying 22 = some (.int .i64) := by kernel_rfl
theorem und2 : Tryz.prog.underlying 2 = some (.int .i64) := by kernel_rfl
theorem und3 : Tryz.prog.underlying 3 = some (.int .i64) := by kernel_rfl
theorem und4 : Tryz.prog.underlying 4 = some .bool := by kernel_rfl
theorem und9 : Tryz.prog.underlying 9 = some .string := by kernel_rfl
theorem und23 : Tryz.prog.underlying 23 = some (.slice 29) := by kernel_rfl
theorem und24 : Tryz.prog.underlying 24 = some (.slice 52) := by kernel_rfl
theorem cells29 : Tryz.prog.cellsOf 29 = 3 := by kernel_rfl
theorem cells52 : Tryz.prog.cellsOf 52 = 2 := by kernel_rfl
theorem bytes29 : Tryz.prog.bytesOf 29 = 48 := by kernel_rfl
theorem bytes52 : Tryz.prog.bytesOf 52 = 16 := by kernel_rfl
section
variable [SymE] {aw : AW}
theorem rd_i64 {t : TypeId} {cs : List Value} (hu : Tryz.prog.underlying t = some (.int .i64)) (h : Rd Tryz.prog aw t cs) : ∃ n : Int, cs = [.int .i64 n] ∧ -9223372036854775808 ≤ n ∧ n < 9223372036854775808 := by
  obtain ⟨n, rfl, h1, h2⟩ := h.inv_int hu
  have h1 : (-9223372036854775808 : Int) ≤ n := h1
  have h2 : n ≤ 9223372036854775807 := h2
  exact ⟨n, rfl, h1, by omega⟩
theorem rd_str {cs : List Value} (h : Rd Tryz.prog aw 9 cs) : ∃ l : List UInt8, cs = [.string (Tryz.BA l)] ∧ l.length < 2 ^ 60 := by
  obtain ⟨s, rfl, hs⟩ := h.inv_str und9
  have hr : reachBytes < 2 ^ 60 := by decide
  refine ⟨s.data.toList, ?_, ?_⟩
  · obtain ⟨⟨l⟩⟩ := s; rfl
  · have : s.size = s.data.toList.length := by obtain ⟨⟨l⟩⟩ := s; rfl
    omega
theorem rdl_b : ∀ (n : Nat) (cells : List Value), RdL Tryz.prog aw (List.replicate n 29) cells → ∃ l : List Oc.Bnd, l.length = n ∧ cells = Tryz.bcs l ∧ ∀ b ∈ l, b.1.length < 2 ^ 60 ∧ b.2.1.length < 2 ^ 60 ∧ b.2.2.length < 2 ^ 60
  | 0, cells, h => by
    obtain rfl := h.inv_nil
    exact ⟨[], rfl, rfl, fun e he => by cases he⟩
  | n + 1, cells, h => by
    obtain ⟨c1, c2, rfl, h1, h2⟩ := RdL.inv_cons (show RdL Tryz.prog aw (29 :: List.replicate n 29) cells from h)
    obtain ⟨fs, hu, hts⟩ := und29
    have h1 := h1.inv_struct hu
    rw [hts] at h1
    obtain ⟨a1, r1, rfl, k1, h1⟩ := h1.inv_cons
    obtain ⟨a2, r2, rfl, k2, h1⟩ := h1.inv_cons
    obtain ⟨a3, r3, rfl, k3, h1⟩ := h1.inv_cons
    obtain rfl := h1.inv_nil
    obtain ⟨x1, rfl, b1⟩ := rd_str k1
    obtain ⟨x2, rfl, b2⟩ := rd_str k2
    obtain ⟨x3, rfl, b3⟩ := rd_str k3
    obtain ⟨l, e1, e2, e3⟩ := rdl_b n c2 h2
    refine ⟨(x1, x2, x3) :: l, by simp [e1], ?_, fun b hb => ?_⟩
    · rw [e2]; simp [Tryz.bcs, Tryz.bcell]
    · rcases List.mem_cons.1 hb with rfl | hb
      · exact ⟨b1, b2, b3⟩
      · exact e3 b hb
theorem rdl_m : ∀ (n : Nat) (cells : List Value), RdL Tryz.prog aw (List.replicate n 52) cells → ∃ l : List (Bool × Int), l.length = n ∧ cells = Tryz.mcs l ∧ ∀ b ∈ l, -9223372036854775808 ≤ b.2 ∧ b.2 < 9223372036854775808
  | 0, cells, h => by
    obtain rfl := h.inv_nil
    exact ⟨[], rfl, rfl, fun e he => by cases he⟩
  | n + 1, cells, h => by
    obtain ⟨c1, c2, rfl, h1, h2⟩ := RdL.inv_cons (show RdL Tryz.prog aw (52 :: List.replicate n 52) cells from h)
    obtain ⟨fs, hu, hts⟩ := und52
    have h1 := h1.inv_struct hu
    rw [hts] at h1
    obtain ⟨a1, r1, rfl, k1, h1⟩ := h1.inv_cons
    obtain ⟨a2, r2, rfl, k2, h1⟩ := h1.inv_cons
    obtain rfl := h1.inv_nil
    obtain ⟨x1, rfl⟩ := k1.inv_bool und4
    obtain ⟨x2, rfl, b2, b3⟩ := rd_i64 und2 k2
    obtain ⟨l, e1, e2, e3⟩ := rdl_m n c2 h2
    refine ⟨(x1, x2) :: l, by simp [e1], ?_, fun b hb => ?_⟩
    · rw [e2]; simp [Tryz.mcs, Tryz.mcell]
    · rcases List.mem_cons.1 hb with rfl | hb
      · exact ⟨b2, b3⟩
      · exact e3 b hb
variable {ro : List (Nat × Blk)}
theorem rd_binds {cs : List Value} (h : Rd Tryz.prog aw 23 cs) : ∃ v l, cs = [v] ∧ Fs aw [] ro [] 3 v l.length (Tryz.bcs l) ∧ l.length < 2 ^ 60 ∧ ∀ b ∈ l, b.1.length < 2 ^ 60 ∧ b.2.1.length < 2 ^ 60 ∧ b.2.2.length < 2 ^ 60 := by
  rcases h.inv_slice und23 with rfl | ⟨b, rfl, hlt⟩ | ⟨b, len, el, cells, rfl, hlt, hm, hn, hl, hr⟩
  · exact ⟨_, [], rfl, .nil, by decide, fun e he => by cases he⟩
  · exact ⟨_, [], rfl, .emp, by decide, fun e he => by cases he⟩
  · obtain ⟨l, rfl, e2, e3⟩ := rdl_b len cells hr
    have hrb : reachBytes < 2 ^ 60 := by decide
    rw [bytes29] at hl
    rw [cells29] at hn
    refine ⟨_, l, rfl, .at (fun aw' L M _ => ⟨_, (M.keep _ hlt (by simp)).trans hm, fun i v hv => by rw [e2]; simpa using hv⟩) (by rw [← e2]; exact hn), by omega, e3⟩
theorem rd_moves {cs : List Value} (h : Rd Tryz.prog aw 24 cs) : ∃ v l, cs = [v] ∧ Fs aw [] ro [] 2 v l.length (Tryz.mcs l) ∧ l.length < 2 ^ 60 ∧ ∀ b ∈ l, -9223372036854775808 ≤ b.2 ∧ b.2 < 9223372036854775808 := by
  rcases h.inv_slice und24 with rfl | ⟨b, rfl, hlt⟩ | ⟨b, len, el, cells, rfl, hlt, hm, hn, hl, hr⟩
  · exact ⟨_, [], rfl, .nil, by decide, fun e he => by cases he⟩
  · exact ⟨_, [], rfl, .emp, by decide, fun e he => by cases he⟩
  · obtain ⟨l, rfl, e2, e3⟩ := rdl_m len cells hr
    have hrb : reachBytes < 2 ^ 60 := by decide
    rw [bytes52] at hl
    rw [cells52] at hn
    refine ⟨_, l, rfl, .at (fun aw' L M _ => ⟨_, (M.keep _ hlt (by simp)).trans hm, fun i v hv => by rw [e2]; simpa using hv⟩) (by rw [← e2]; exact hn), by omega, e3⟩
end
theorem walkReplies {H : Type} {enc : TypeId × Value → H} {w : World} {vs : List Value} {ds : List (DataW H)} {ps : List MemPlace} (hL : laidMetH Tryz.prog laidAll w) (hA : DataW.TrodAll enc Tryz.prog w 0 (fun _ => true) true [26] vs ds ps)
    (hw : (DataW.weightsEach Tryz.prog [26] ds).all (· ≤ reachBytes) = true) (hv : ∀ (j : Nat) t v, [26][j]? = some t → vs[j]? = some v → ∃ base, Value.okWide Tryz.prog w .any base t v) :
    Calls Tryz.prog 3 vs.toArray w fun e w' => e = .returned (.bool true) ∧ Below w.heap.size w w' := by
  letI : SymE := symOf []
  obtain ⟨t, u, s, aw, vs', hr, hG, ha, hvs⟩ := args_at oOk hL (by kernel_rfl) hA hw hv
  obtain ⟨v1, r, rfl, h1, ha⟩ := ha.cons
  obtain rfl := ha.nil
  obtain ⟨cs, rfl, h2⟩ := h1.rdN (by kernel_rfl)
  clear h1
  obtain ⟨fs, hu, hts⟩ := und26
  have h1 := h2.inv_struct hu
  clear h2
  rw [hts] at h1
  obtain ⟨a1, r1, rfl, k1, h1⟩ := h1.inv_cons
  obtain ⟨a2, r2, rfl, k2, h1⟩ := h1.inv_cons
  obtain ⟨a3, r3, rfl, k3, h1⟩ := h1.inv_cons
  obtain ⟨a4, r4, rfl, k4, h1⟩ := h1.inv_cons
  obtain ⟨a5, r5, rfl, k5, h1⟩ := h1.inv_cons
  obtain ⟨a6, r6, rfl, k6, h1⟩ := h1.inv_cons
  obtain rfl := h1.inv_nil
  obtain ⟨x1, rfl, b1⟩ := rd_i64 und22 k1
  obtain ⟨x2, rfl, b2⟩ := rd_i64 und3 k2
  obtain ⟨x3, rfl, b3⟩ := rd_str k3
  obtain ⟨x4, l4, rfl, f4, n4, m4⟩ := rd_binds (ro := NR t u) k4
  obtain ⟨x5, rfl, b5⟩ := rd_str k5
  obtain ⟨x6, l6, rfl, f6, n6, m6⟩ := rd_moves (ro := NR t u) k6
  have := Tryz.replies_x (E := fun _ _ => False) (Q := fun b _ => b = true) (awkN t u) hG b1 b2 m6 b3 b5 n4 n6 m4 f4 f6 (fun p hp => by cases hp) fun _ => rfl
  exact calls_true (fun b => rfl) this hr (by simpa using hvs)
end Go.Proofs.YtfgihmgeplcfoaaGreatDoor
