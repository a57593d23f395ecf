/- ParseNames: the law's walk, joined. -/
import Derived.Test.YthfjjcfceilahaaGreatDoorPn6
set_option linter.unusedSimpArgs false
set_option linter.unusedVariables false
set_option linter.unusedSectionVars false
set_option maxRecDepth 100000
namespace Go.Proofs.YthfjjcfceilahaaGreatDoor
open Go Go.Am Go.Ri Go.RowKit
section
variable [SymE] {aw0 aw : AW} {t u : Nat → TypeId} {Q : Bool → AW → Prop} {E : List PanicEntry → AW → Prop}
theorem cmp_x {cs : List UInt8} {bw g : Nat} {own : List Nat} {ro l : List (Nat × Blk)} (hQ : ∀ aw, Q true aw) (h20 : cs.length ≤ 20) (M : Hp aw0 own ro aw ((g, ⟨cs.map tx, 9, 1, true, 0⟩) :: (bw, ⟨cs.map tx, 9, 1, true, 0⟩) :: l)) :
    ∀ (r i : Nat), i + r = cs.length → Tryz.S6_2 Q E (r + 1) (.slice (some ⟨bw, 0, none⟩) cs.length UNK) (.slice (some ⟨g, 0, none⟩) cs.length UNK) (i : Int) aw
  | 0, i, hi => by
    show Tryz.S6_2s Q E _ _ _ _ _
    unfold Tryz.S6_2s
    exact slen_x (cnd_0x (decide_eq_false (by omega)) (hQ _))
  | r + 1, i, hi => by
    show Tryz.S6_2s Q E (Tryz.S6_2 Q E (r + 1)) _ _ _ _
    unfold Tryz.S6_2s
    have hci : cs[i]? = some cs[i] := List.getElem?_eq_getElem (by omega)
    generalize cs[i] = c at hci
    have hc : (cs.map tx)[i]? = some (tx c) := by rw [List.getElem?_map, hci]; rfl
    refine slen_x (cnd_1x (decide_eq_true (by omega)) (slen_x (slen_x (cnd_0x (by simp) (ixS_x (by omega) (by omega) ?_)))))
    rw [show 0 + (i : Int).toNat * 1 = i by omega]
    refine ⟨g, i, mkB [c], rfl, get_m (M.m .here) hc, ?_⟩
    refine ixS_x (by omega) (by omega) ?_
    rw [show 0 + (i : Int).toNat * 1 = i by omega]
    refine ⟨bw, i, mkB [c], rfl, get_m (M.m (.there .here)) hc, ?_⟩
    refine cnd_0x (by simp) ?_
    rw [i64_in (n := (i : Int) + 1) (by omega) (by omega), show (i : Int) + 1 = ((i + 1 : Nat) : Int) by omega]
    exact cmp_x hQ h20 M r (i + 1) (by omega)
theorem txt_eq (cs : List UInt8) : ((⟨#[109, 97, 116, 99, 104, 32, 121, 32, 119, 105, 116, 104, 32, 40]⟩ : ByteArray) ++ sB cs) ++ (⟨#[41, 32, 45, 62, 32, 49]⟩ : ByteArray) = mkB (txtN cs) := by
  show (mkB preN ++ mkB (jn cs)) ++ mkB postN = _
  rw [mkB_append, mkB_append]; rfl
theorem outer_x {nv : Value} {bs cs : List UInt8} (hcs : cs = bs.map ltr) (hb : BytesAt aw0 nv bs) (h2 : 2 ≤ cs.length) (h20 : cs.length ≤ 20) (hQ : ∀ aw, Q true aw)
    (hTw : ¬ cs.Nodup → ∀ aw, Vars t u aw → ACalls Tryz.prog 11 [.string ⟨⟨txtN cs⟩⟩] aw fun e aw' => e = .returned (.tuple #[.slice none 0 0, .int .i64 13, .int .i64 7]) ∧ aw' = aw)
    (hNo : cs.Nodup → ∀ aw, Vars t u aw → ACalls Tryz.prog 11 [.string ⟨⟨txtN cs⟩⟩] aw fun e aw' => ∃ b1 b2 b3 c1, e = .returned (.tuple #[.slice (some ⟨b1, 0, none⟩) 1 c1, .int .i64 0, .int .i64 0]) ∧ Got cs aw aw' b1 b2 b3) :
    ∀ (r i : Nat) (tw : Bool) (wv : Value) (L : List (Nat × Blk)) (aw : AW), i + r = cs.length → tw = decide (¬ (cs.take i).Nodup) → SlP 9 1 wv i ((cs.take i).map tx) L → Hp aw0 [] (NR t u) aw (L ++ []) →
    Tryz.S6_1 Q E (r + 1) nv (sB (cs.take i)) tw wv (i : Int) aw
  | 0, i, tw, wv, L, aw, hi, htw, hw, M => by
    show Tryz.S6_1s Q E _ _ _ _ _ _ _
    unfold Tryz.S6_1s
    obtain rfl : i = cs.length := by omega
    have hlb : bs.length = cs.length := by rw [hcs]; simp
    have hsl : ∀ K : Int → Prop, K (cs.length : Int) → slen nv K := fun K h => by
      rw [← hlb] at h
      cases hb with
      | nil => exact slen_x h
      | emp => exact slen_x h
      | «at» => exact slen_x h
    rw [List.take_length] at htw hw ⊢
    have hsz := sB_size cs
    refine hsl _ (cnd_0x (decide_eq_false (by omega)) ⟨?_, ?_, ?_⟩)
    · show 14 + (sB cs).size ≤ 2 ^ 62
      omega
    · have e : (⟨#[109, 97, 116, 99, 104, 32, 121, 32, 119, 105, 116, 104, 32, 40]⟩ : ByteArray) ++ sB cs = mkB (preN ++ jn cs) := mkB_append preN _
      rw [e, mkB_size, List.length_append]
      have : (jn cs).length ≤ 3 * cs.length := hsz
      show 14 + (jn cs).length + 6 ≤ 2 ^ 62
      omega
    rw [txt_eq]
    have hV := vars_of M
    cases htv : tw with
    | true =>
      have hd : ¬ cs.Nodup := by
        rw [htv] at htw
        exact of_decide_eq_true htw.symm
      refine ACalls.mono (hTw hd aw hV) fun e aw' h => ?_
      obtain ⟨rfl, rfl⟩ := h
      exact ⟨(.slice none 0 0, 13, 7), rfl, cnd_1x rfl (cnd_1x rfl (hQ _))⟩
    | false =>
      have hd : cs.Nodup := by
        rw [htv] at htw
        exact Classical.not_not.1 (of_decide_eq_false htw.symm)
      refine ACalls.mono (hNo hd aw hV) fun e aw' h => ?_
      obtain ⟨b1, b2, b3, c1, rfl, g⟩ := h
      obtain ⟨B1, k2, c2, p1, p2, p3, p4, p5⟩ := g.c1
      obtain ⟨B2, k, s, j, c3, q1, q2, q3, q4, q5, q6, q7⟩ := g.c2
      obtain ⟨B3, r1, r2, r3⟩ := g.c3
      have key : ∀ {n : Nat} {v : Value} {os : List Value} {L : List (Nat × Blk)}, SlP 9 1 v n os L → 0 < n → ∃ b, v = .slice (some ⟨b, 0, none⟩) n UNK ∧ L = [(b, ⟨os, 9, 1, true, 0⟩)] := by
        intro n v os L h hn
        cases h with
        | nil => omega
        | some h => exact ⟨_, rfl, rfl⟩
      obtain ⟨bw, rfl, rfl⟩ := key hw (by omega)
      have hbw := M.at_ (bw, ⟨cs.map tx, 9, 1, true, 0⟩) (by simp)
      have M' : Hp aw' ([(bw, (⟨cs.map tx, 9, 1, true, 0⟩ : Blk))].map (·.1)) [(b3, B3)] aw' [(bw, ⟨cs.map tx, 9, 1, true, 0⟩)] := by
        refine Hp.init (by simp) (fun p hp => ?_) fun p hp => ?_
        · obtain rfl := List.mem_singleton.1 hp
          exact ⟨(g.old _ hbw.2).trans hbw.1, Nat.lt_of_lt_of_le hbw.2 g.next⟩
        · obtain rfl := List.mem_singleton.1 hp
          refine ⟨r1, g.n3.2, ?_⟩
          have := g.n3.1
          have h2 := hbw.2
          simp only [List.map_cons, List.map_nil, List.mem_singleton]
          simp only at h2
          omega
      refine ⟨(.slice (some ⟨b1, 0, none⟩) 1 c1, 0, 0), rfl, cnd_0x rfl (cnd_0x rfl (slen_x (cnd_0x rfl (ixS_x (by decide) (by decide) (fldA_x (fldA_x ?_))))))⟩
      refine ⟨b1, 7, _, rfl, get_m p1 p5, ?_⟩
      refine ixS_x (by decide) (by omega) (ptr_x ?_)
      refine ⟨(.ofNat k), get_m q1 q4, s, get_m q1 q5, j, get_m q1 q6, _, get_m q1 q7, ?_⟩
      refine names_x M' (fun M => M.r .here) r3 h20 (by omega) q3 fun g' aw2 M2 => ?_
      exact ⟨cs.length + 1, cmp_x hQ h20 M2 cs.length 0 (by omega)⟩
  | r + 1, i, tw, wv, L, aw, hi, htw, hw, M => by
    show Tryz.S6_1s Q E (Tryz.S6_1 Q E (r + 1)) _ _ _ _ _ _
    unfold Tryz.S6_1s
    have hlb : bs.length = cs.length := by rw [hcs]; simp
    have hlt : i < cs.length := by omega
    cases hb with
    | nil => simp at hlb; omega
    | emp => simp at hlb; omega
    | «at» hbn hm =>
      rename_i b el
      have hbi : bs[i]? = some bs[i] := List.getElem?_eq_getElem (by omega)
      generalize bs[i] = d at hbi
      have hci : cs[i]? = some (ltr d) := by rw [hcs, List.getElem?_map, hbi]; rfl
      have hm' : aw.m b = some ⟨bytesV bs, el, 1, false, 0⟩ := (M.keep b hbn (by simp)).trans hm
      refine slen_x (cnd_1x (decide_eq_true (by omega)) (ixS_x (by omega) (by omega) ?_))
      rw [show 0 + (i : Int).toNat * 1 = i by omega]
      refine ⟨b, i, (d.toNat : Int), rfl, get_m hm' ?_, ?_⟩
      · show (bytesV bs)[i]? = _
        unfold bytesV
        rw [List.getElem?_map, hbi]; rfl
      show alcS aw [Value.int IntKind.u8 (IntKind.u8.wrap (97 + Int.tmod (d.toNat : Int) 26))] 5 1 1 _
      rw [ltr_wrap]
      refine alcS_x M fun g aw1 M1 => ?_
      refine ⟨[ltr d], 1, mkB [ltr d], src_s (M1.im .here) rfl (by repeat constructor), ⟨_, _, _, rfl⟩, rfl, i + 1, ?_⟩
      have M2 : Hp aw0 [] (NR t u) aw1 (L ++ []) := M1.drop .here
      refine inner_x (own := []) (ro := NR t u) (l := []) (w0 := tw) hci h20 hw (fun v aw' L' hv M3 => ?_) i 0 tw aw1 (by omega) (by simp) M2
      refine outer_x hcs (.at hbn hm) h2 h20 hQ hTw hNo r (i + 1) _ v L' aw' (by omega) ?_ hv M3
      have htc : cs.take (i + 1) = cs.take i ++ [ltr d] := by rw [List.take_add_one, hci]; rfl
      rw [htc, htw]
      rw [← Bool.decide_or]
      refine decide_eq_decide.2 ?_
      rw [List.nodup_append]
      simp only [List.nodup_cons, List.not_mem_nil, not_false_eq_true, List.nodup_nil, and_self, true_and, List.mem_singleton, forall_eq]
      constructor
      · rintro (h | h) ⟨h1, h2⟩
        · exact h h1
        · exact h2 _ h rfl
      · intro h
        by_cases hn : (cs.take i).Nodup
        · refine .inr (Classical.byContradiction fun hm => h ⟨hn, fun a ha e => hm (e ▸ ha)⟩)
        · exact .inl hn
end
end Go.Proofs.YthfjjcfceilahaaGreatDoor
