/- Cell at a pattern of names, in any memory where the variables stand. -/
import Derived.Test.YthfjjcfceilahaaGreatDoorPn3
import Derived.Test.YthfjjcfceilahaaGreatDoorQK0
set_option linter.unusedSimpArgs false
set_option linter.unusedVariables false
set_option linter.unusedSectionVars false
set_option maxRecDepth 100000
namespace Go.Proofs.YthfjjcfceilahaaGreatDoor
open Go Go.Am Go.Ri Go.RowKit
open Go.Proofs (encStr)
theorem rn_id (v : Value) : rnV (fun b => b) v = v := by unfold rnV; split <;> rfl
theorem okCells (t u : Nat → TypeId) : ((PL t u).all fun p => p.2.1.all (okV 16)) = true := by kernel_rfl
theorem PL_lt (t u : Nat → TypeId) : ((PL t u).all fun p => decide (p.1 < 16)) = true := by kernel_rfl
def Vars (t u : Nat → TypeId) (aw : AW) : Prop := ∀ p ∈ PL t u, aw.m p.1 = some ⟨p.2.1, p.2.2.1, p.2.2.2, false, 0⟩
theorem underR [SymE] {t u : Nat → TypeId} {aw : AW} (h : Vars t u aw) : UnderR Tryz.prog.globals.size (fun b => b) (PM t u).abs aw := by
  letI : FT := ftOf {}
  haveI : FTok := ftOk (F := {}) ⟨(fun _ h => by cases h), (fun _ h => by cases h), (fun _ h => by cases h), (fun _ h => by cases h)⟩
  refine ⟨by rw [gsz]; exact (show (9 : Nat) ≤ 16 by decide), fun _ _ => rfl, fun b hb => ?_, fun b B hB => ?_, fun b => T.get_leaf b⟩
  · cases hB : (PM t u).abs.m b with
    | none => rfl
    | some B =>
      obtain ⟨p, hp, rfl, _⟩ := memR_abs _ b B hB
      have := List.all_eq_true.1 (PL_lt t u) p hp
      have hb' : 16 ≤ p.1 := hb
      simp at this
      omega
  · obtain ⟨p, hp, rfl, rfl⟩ := memR_abs _ b B hB
    refine ⟨rfl, _, h p hp, rfl, rfl, fun _ => rfl, fun i v hi => ⟨?_, ?_⟩⟩
    · exact List.all_eq_true.1 (List.all_eq_true.1 (okCells t u) p hp) v (List.mem_of_getElem? hi)
    · rw [rn_id]; exact hi
theorem underX [SymE] {t u : Nat → TypeId} {aw : AW} (h : Vars t u aw) : UnderX Tryz.prog.globals.size (fun b => b) (PM t u).abs aw := by
  have r := underR h
  refine ⟨r.le, r.gl, r.no, fun b B hB => ?_, r.mps⟩
  obtain ⟨h1, B', h2, h3, h4, h5, h6⟩ := r.blk b B hB
  refine ⟨h1, B', h2, h3, h4, h5, fun i v hi => ?_⟩
  obtain ⟨k1, k2⟩ := h6 i v hi
  have nm : ∀ {v : Value} {n : Nat}, okV n v = true → okX n v = true := by
    intro v n hv
    unfold okX
    split
    · rfl
    · exact hv
  refine ⟨nm k1, ?_⟩
  rw [k2]
  unfold rnX
  split
  · rename_i i'
    have : okV (PM t u).abs.next (.map (some i')) = true := k1
    simp [okV, plain] at this
  · rfl
def kidsV : List UInt8 → List Value
  | [] => []
  | c :: r => .int .u8 2 :: .string (⟨⟨[c]⟩⟩ : ByteArray) :: .int .i64 0 :: .slice none 0 0 :: kidsV r
theorem kids_rn [SymE] {cs : List UInt8} (hE : ∀ i (h : i < cs.length), SymE.E (nameS i) = .string ⟨⟨[cs[i]]⟩⟩) (sh : Nat → Nat) : (kidsL (List.range cs.length)).map (rnX sh) = kidsV cs := by
  have key : ∀ (suf pre : List UInt8), cs = pre ++ suf → (kidsL (List.range' pre.length suf.length)).map (rnX sh) = kidsV suf := by
    intro suf
    induction suf with
    | nil => intro pre h; rfl
    | cons c r ih =>
      intro pre h
      rw [List.length_cons, List.range'_succ]
      have hi := ih (pre ++ [c]) (by rw [h]; simp)
      rw [List.length_append] at hi
      have hlt : pre.length < cs.length := by rw [h]; simp
      have hc : cs[pre.length] = c := by simp [h]
      have he := hE pre.length hlt
      rw [hc] at he
      show rnX sh _ :: rnX sh (.map (some (nameS pre.length))) :: rnX sh _ :: rnX sh _ :: (kidsL (List.range' (pre.length + 1) r.length)).map (rnX sh) = _
      rw [show rnX sh (.map (some (nameS pre.length))) = SymE.E (nameS pre.length) from rfl, he, show pre.length + 1 = pre.length + [c].length from rfl, hi]
      rfl
  have := key cs [] rfl
  rw [List.range_eq_range']
  exact this
structure Got (cs : List UInt8) (aw aw' : AW) (b1 b2 b3 : Nat) : Prop where
  old : ∀ b, b < aw.next → aw'.m b = aw.m b
  next : aw.next ≤ aw'.next
  c1 : ∃ B k2 c2, aw'.m b1 = some B ∧ B.rw = false ∧ B.cells.length = 11 ∧ 0 < k2 ∧ B.cells[7]? = some (.slice (some ⟨b2, 0, none⟩) k2 c2)
  c2 : ∃ B k s j c3, aw'.m b2 = some B ∧ B.rw = false ∧ (k : Nat) ≠ 2 ∧ B.cells[0]? = some (.int .u8 (.ofNat k)) ∧ B.cells[1]? = some (.string s) ∧ B.cells[2]? = some (.int .i64 j) ∧ B.cells[3]? = some (.slice (some ⟨b3, 0, none⟩) cs.length c3)
  c3 : ∃ B, aw'.m b3 = some B ∧ B.rw = false ∧ B.cells = kidsV cs
  n3 : aw.next ≤ b3 ∧ b3 < aw'.next
section
variable {cs : List UInt8} {t u : Nat → TypeId} {aw : AW}
theorem txts_of (h : 2 ≤ cs.length) (h20 : cs.length ≤ 20) : (NSn cs.length).map (@den (symT (txtN cs))) = (cs.map fun c => [c]).map encStr := by
  letI := symT (txtN cs)
  apply List.ext_getElem
  · simp [NSn]
  · intro i h1 h2
    simp only [NSn, List.map_map, List.getElem_map, List.getElem_range, Function.comp]
    have : i < cs.length := by simpa [NSn] using h1
    exact nameS_E this h20
theorem nodup_of (h : cs.Nodup) : (cs.map fun c => [c]).Nodup := by
  rw [List.Nodup, List.pairwise_map]
  exact h.imp fun hab he => hab (by simpa using he)
theorem nodup_to (h : (cs.map fun c => [c]).Nodup) : cs.Nodup := by
  rw [List.Nodup, List.pairwise_map] at h
  exact h.imp fun hab he => hab (by rw [he])
theorem run_calls (hl : ∀ c ∈ cs, let' c = true) (h2 : 2 ≤ cs.length) (h20 : cs.length ≤ 20) {w : Bool} (hw : decide (¬ cs.Nodup) = w) {e : AEnd} {M : Mem} (h : runN w cs.length t u = some (e, M)) :
    @ACalls (symT (txtN cs)) Tryz.prog 11 [.map (some (3 * cs.length + 18))] (PM t u).abs fun e' aw' => e' = e ∧ aw' = M.abs := by
  letI S := symT (txtN cs)
  have hne : cs ≠ [] := fun e => by simp [e] at h2
  letI : FT := ftT (tplN cs.length) (3 * cs.length + 18)
  haveI : FTok := ftN_ok hl hne h20
  have hw' : decide (¬ (cs.map fun c => [c]).Nodup) = w := by
    rw [← hw]
    exact decide_eq_decide.2 ⟨fun h hn => h (nodup_of hn), fun h hn => h (nodup_to hn)⟩
  exact callPl_spec (O := orPat w (NSn cs.length)) (fun C hC => orPat_spec (txts_of h2 h20) hw' (by simp; omega) (by simp; omega) hC) hP hX0 hRB0 hmix 60 11 _ _ _ _ h
theorem cell_tw (hl : ∀ c ∈ cs, let' c = true) (h2 : 2 ≤ cs.length) (h20 : cs.length ≤ 20) (hd : ¬ cs.Nodup) (hV : Vars t u aw) (h : chkTw (runN true cs.length t u) = true) :
    @ACalls (symT (txtN cs)) Tryz.prog 11 [.string ⟨⟨txtN cs⟩⟩] aw fun e aw' => e = .returned (.tuple #[.slice none 0 0, .int .i64 13, .int .i64 7]) ∧ aw' = aw := by
  letI S := symT (txtN cs)
  have hne : cs ≠ [] := fun e => by simp [e] at h2
  letI : FT := ftT (tplN cs.length) (3 * cs.length + 18)
  haveI : FTok := ftN_ok hl hne h20
  obtain ⟨M, hM⟩ := chkTw_spec h
  have hr := run_calls hl h2 h20 (decide_eq_true hd) hM
  have := acalls_renX (underX hV) (by rfl) (by rfl) hr
  rwa [show List.map (rnX fun b => b) [Value.map (some (3 * cs.length + 18))] = [.string ⟨⟨txtN cs⟩⟩] by
    show [SymE.E (3 * cs.length + 18)] = _
    rw [whole_E hne h20]] at this
theorem cell_no (hl : ∀ c ∈ cs, let' c = true) (h2 : 2 ≤ cs.length) (h20 : cs.length ≤ 20) (hd : cs.Nodup) (hV : Vars t u aw) (h : chkK cs.length (runN false cs.length t u) = true) :
    @ACalls (symT (txtN cs)) Tryz.prog 11 [.string ⟨⟨txtN cs⟩⟩] aw fun e aw' => ∃ b1 b2 b3 c1, e = .returned (.tuple #[.slice (some ⟨b1, 0, none⟩) 1 c1, .int .i64 0, .int .i64 0]) ∧ Got cs aw aw' b1 b2 b3 := by
  letI S := symT (txtN cs)
  have hne : cs ≠ [] := fun e => by simp [e] at h2
  letI : FT := ftT (tplN cs.length) (3 * cs.length + 18)
  haveI : FTok := ftN_ok hl hne h20
  obtain ⟨M, b1, c1, b2, b3, L1, L2, L3, hM, g⟩ := chkK_spec h
  have hr := run_calls hl h2 h20 (decide_eq_false (fun h => h hd)) hM
  obtain ⟨B1, p1, p2, p3⟩ := g.m1
  obtain ⟨B2, q1, q2, q3⟩ := g.m2
  obtain ⟨B3, r1, r2, r3⟩ := g.m3
  have nx : (PM t u).abs.next = 16 := rfl
  have okb1 : okK 16 (.slice (some ⟨b1, 0, none⟩) 1 c1) = true := by
    show Nat.ble 16 b1 = true
    exact Nat.ble_eq ▸ g.l1.1.1
  have hvs : ([.slice (some ⟨b1, 0, none⟩) 1 c1, .int .i64 0, .int .i64 0] : List Value).all (okK (PM t u).abs.next) = true := by
    rw [nx]
    show (okK 16 (.slice (some ⟨b1, 0, none⟩) 1 c1) && (true && (true && true))) = true
    rw [okb1]; rfl
  have := acalls_keep (L := [b1, b2, b3]) (underX hV) (by rfl) hvs (by
    intro b hb
    simp only [List.mem_cons, List.not_mem_nil, or_false] at hb
    rcases hb with rfl | rfl | rfl
    · refine ⟨g.l1.1.1, fun B hB => ?_⟩
      rw [p1] at hB; obtain rfl := Option.some.inj hB
      exact ⟨p2, by rw [p3]; exact g.l1.2⟩
    · refine ⟨g.l2.1.1, fun B hB => ?_⟩
      rw [q1] at hB; obtain rfl := Option.some.inj hB
      exact ⟨q2, by rw [q3]; exact g.l2.2⟩
    · refine ⟨g.l3.1.1, fun B hB => ?_⟩
      rw [r1] at hB; obtain rfl := Option.some.inj hB
      exact ⟨r2, by rw [r3]; exact g.l3.2⟩) hr
  rw [show List.map (rnX fun b => b) [Value.map (some (3 * cs.length + 18))] = [.string ⟨⟨txtN cs⟩⟩] by
    show [SymE.E (3 * cs.length + 18)] = _
    rw [whole_E hne h20]] at this
  refine this.mono fun e aw' h => ?_
  obtain ⟨rfl, rfl⟩ := h
  refine ⟨b1 - 16 + aw.next, b2 - 16 + aw.next, b3 - 16 + aw.next, c1, rfl, fun b hb => keepM_old hb, Nat.le_add_right _ _, ?_, ?_, ?_, by omega, ?_⟩
  · obtain ⟨e1, k2, c2, e2, e3⟩ := g.c1
    refine ⟨_, k2, c2, keepM_new g.l1.1.1 (by simp) p1, rfl, by simp [p3, e1], e2, ?_⟩
    simp only [p3, List.getElem?_map, e3]
    rfl
  · obtain ⟨k, s, j, c3, e0, e1, e2, e3, e4⟩ := g.c2
    refine ⟨_, k, s, j, c3, keepM_new g.l2.1.1 (by simp) q1, rfl, e0, ?_, ?_, ?_, ?_⟩
    · simp only [q3, List.getElem?_map, e1]; rfl
    · simp only [q3, List.getElem?_map, e2]; rfl
    · simp only [q3, List.getElem?_map, e3]; rfl
    · simp only [q3, List.getElem?_map, e4]; rfl
  · refine ⟨_, keepM_new g.l3.1.1 (by simp) r1, rfl, ?_⟩
    simp only [r3]
    rw [g.c3]
    exact kids_rn (fun i hi => nameS_E hi h20) _
  · show b3 - 16 + aw.next < aw.next + (M.abs.next - 16)
    have := g.l3.1
    omega
end
end Go.Proofs.YthfjjcfceilahaaGreatDoor
