/- ballot: slices are cloned; a state is copied. -/
import Derived.Test.YtfdfakapkhflcaaVc1
set_option linter.unusedSimpArgs false
set_option linter.unusedVariables false
set_option linter.unusedSectionVars false
namespace Go.Proofs.Try
open Go Go.Am Go.RowKit Go.Oc
variable [SymE]
set_option maxHeartbeats 1000000
section
variable {aw0 aw : AW} {own : List Nat} {ro l S Sc : List (Nat × Blk)} {s : Sv} {E : List PanicEntry → AW → Prop} {v : Value} {bs ds : List UInt8} {xs vs ns ms : List Value} {es : List En}
theorem clone57_x {Q : Value → AW → Prop} (hR : Rws aw0 own ro S v bs) (M : Hp aw0 own ro aw l) (hS : ∀ p ∈ S, p ∈ l) (hb : bs.length < 2 ^ 44) (h : ∀ v' L aw', Rws aw0 own ro L v' bs → Go.Am.one v' = true → Hp aw0 own ro aw' (L ++ l) → Q v' aw') : CallP prog 57 [v] aw sh57 Q E := by
  refine F57_ok _ aw ?_
  unfold S57_0
  have go : (isNil v).getD false = false → nilFits (.slice 5) v (.slice none 0 0) = true → nilB (.slice 5) v (.slice none 0 0) fun q1 => cnd q1 (Q (.slice none 0 0) aw) (alcS aw [] 5 1 0 fun p5 aw6 => app aw6 5 1 1 p5 v fun v9 aw10 => Q v9 aw10) := by
    intro hn hf
    refine nilB_x hf hn (cnd_0x rfl (alcS_x M fun b aw' M' => ?_))
    have hsrc := (hR _ _ M' fun p hp => List.mem_cons_of_mem _ (hS p hp)).src
    by_cases h0 : bs = []
    · subst h0
      exact app_none hsrc (h _ [] _ Rws.void rfl (M'.drop .here))
    · refine app_e0 M' hsrc (List.length_pos_iff.2 h0) (bytesV_one bs) (by omega) fun b2 aw2 M2 => ?_
      refine h _ [(b2, ⟨bytesV bs, 5, 1, true, 0⟩)] _ (Ob.rs (.blk rfl (.inr rfl))).w rfl M2
  have hr := hR aw l M hS
  cases hr with
  | of hr =>
    cases hr with
    | nil => exact nilB_x rfl rfl (cnd_1x rfl (h _ [] _ (fun _ _ _ _ => .of .nil) rfl M))
    | emp => exact go rfl rfl
    | «at» => exact go rfl rfl
  | void => exact go rfl rfl
theorem clone58_x {Q : Value → AW → Prop} (hA : ArS S 4 v xs) (h0 : 0 < xs.length) (hb : xs.length < 2 ^ 40) (h1 : xs.all Go.Am.one = true) (M : Hp aw0 own ro aw l) (hS : ∀ p ∈ S, p ∈ l) (h : ∀ b aw', Hp aw0 own ro aw' ((b, ⟨xs, 4, 1, true, 0⟩) :: l) → Q (.slice (some ⟨b, 0, none⟩) xs.length UNK) aw') : CallP prog 58 [v] aw sh58 Q E := by
  refine F58_ok _ aw ?_
  unfold S58_0
  have hA' := hA
  obtain ⟨b, c, rfl, hb'⟩ := hA
  refine nilB_x rfl rfl (cnd_0x rfl (alcS_x M fun eb aw' M' => ?_))
  exact app_e0 M' (hA'.src M' fun p hp => List.mem_cons_of_mem _ (hS p hp)) h0 h1 (by omega) fun b2 aw2 M2 => h b2 aw2 M2
theorem clone59_x {Q : Value → AW → Prop} (hA : ArS S 24 v xs) (h0 : 0 < xs.length) (hb : xs.length < 2 ^ 40) (h1 : xs.all Go.Am.one = true) (M : Hp aw0 own ro aw l) (hS : ∀ p ∈ S, p ∈ l) (h : ∀ b aw', Hp aw0 own ro aw' ((b, ⟨xs, 24, 1, true, 0⟩) :: l) → Q (.slice (some ⟨b, 0, none⟩) xs.length UNK) aw') : CallP prog 59 [v] aw sh59 Q E := by
  refine F59_ok _ aw ?_
  unfold S59_0
  have hA' := hA
  obtain ⟨b, c, rfl, hb'⟩ := hA
  refine nilB_x rfl rfl (cnd_0x rfl (alcS_x M fun eb aw' M' => ?_))
  exact app_e0 M' (hA'.src M' fun p hp => List.mem_cons_of_mem _ (hS p hp)) h0 h1 (by omega) fun b2 aw2 M2 => h b2 aw2 M2
abbrev Z16 : List Value := [.int .i64 0, .int .i64 0, .int .i64 0, .int .u64 0, .int .i64 0, .int .u64 0, .int .u64 0, nil3, nil3, .int .u64 0, .int .u8 0, .int .i64 0, .int .i64 0, nil3, nil3, nil3]
def Cap (v : Value) (n : Nat) : Prop := v = nil3 ∨ ∃ b, v = .slice (some ⟨b, 0, none⟩) n UNK
theorem eo_cap {el : Nat} {ev : Value} {L : List (Nat × Blk)} (h : EO aw0 own ro Sc el ev es L) : Cap ev es.length := by
  obtain ⟨vs, h1, _⟩ := h.ex
  generalize es.length = n at h1
  cases h1 with
  | nil => exact .inl rfl
  | some => exact .inr ⟨_, rfl⟩
theorem copy_log {Q : (Int × Int × Int × Int × Int × Int × Int × Value × Value × Int × Int × Int × Int × Value × Value × Value) → AW → Prop} {lv0 : Value} {pb rb : Nat} (hl : EsS aw0 own ro S lv0 es) (hes : es.length < 2 ^ 30) (hcl : ∀ e ∈ es, e.cell.length < 2 ^ 44) (hone : Go.Am.one s.dv = true ∧ Go.Am.one s.vv = true ∧ Go.Am.one s.nv = true ∧ Go.Am.one s.mv = true)
    (hQ : ∀ ev Lr aw', EsS aw0 own ro Lr ev es → Cap ev es.length → Go.Am.one ev = true → Hp aw0 own ro aw' (Lr ++ l) → Q { s with lv := ev }.T aw') :
    ∀ (n i : Nat) (ev : Value) (Le Sc : List (Nat × Blk)) (aw : AW), i + n = es.length → EO aw0 own ro Sc 40 ev (es.take i) Le → Hp aw0 own ro aw ((pb, ⟨{ s with lv := ev }.C, 30, 0, true, 0⟩) :: (rb, ⟨Z16, 30, 0, true, 0⟩) :: (Le ++ (Sc ++ l))) → (∀ p ∈ S, p ∈ l) →
      S23_1 Q E (1 + n) (Pt pb) (Pt rb) lv0 (es.length : Int) (i : Int) aw
  | 0, i, ev, Le, Sc, aw, h, ho, M, hS => by
    obtain rfl : i = es.length := by omega
    rw [List.take_length] at ho
    show S23_1s Q E _ _ _ _ _ _ _
    unfold S23_1s
    refine cnd_0x (decide_eq_false (by omega)) ?_
    refine rd16 (s := { s with lv := ev }) (r := []) (M.im .here) ?_
    refine st_x M (.there .here) (by repeat constructor) rfl rfl (Sv.one.all (s := { s with lv := ev }) ⟨hone.1, ho.one', hone.2.1, hone.2.2.1, hone.2.2.2⟩) fun aw1 M1 => ?_
    refine rd16 (s := { s with lv := ev }) (r := []) (M1.im (.there .here)) ?_
    refine hQ ev (Le ++ Sc) aw1 (ho.toS (fun p hp => List.mem_append_left _ hp) (fun p hp => List.mem_append_right _ hp)) (eo_cap ho) ho.one' ?_
    have M2 := (M1.drop .here).drop .here
    rw [List.append_assoc]; exact M2
  | n + 1, i, ev, Le, Sc, aw, h, ho, M, hS => by
    show S23_1s Q E (S23_1 Q E (1 + n)) _ _ _ _ _ _
    unfold S23_1s
    have hx : es[i]? = some es[i] := List.getElem?_eq_getElem (by omega)
    refine cnd_1x (decide_eq_true (by omega)) (ix_e hl rfl hx fun b o cv hcv hco hg => ?_)
    obtain ⟨g0, g1, g2, g3⟩ := hg aw _ M (fun p hp => List.mem_cons_of_mem _ (List.mem_cons_of_mem _ (List.mem_append_right _ (List.mem_append_right _ (hS p hp)))))
    refine ⟨b, o, rfl, _, g0, _, g1, _, g2, _, g3, ?_⟩
    refine alc_x M fun xb aw1 M1 => st_x M1 .here (by repeat constructor) rfl rfl (by simp only [List.all_cons, List.all_nil, hco, Bool.and_true]; rfl) fun aw2 M2 => ?_
    refine fldA_x (ldV_x (M2.im .here) (by repeat constructor) ?_)
    refine clone57_x hcv M2 (fun p hp => List.mem_cons_of_mem _ (List.mem_cons_of_mem _ (List.mem_cons_of_mem _ (List.mem_append_right _ (List.mem_append_right _ (hS p hp)))))) (hcl _ (List.mem_of_getElem? hx)) fun v' Ln aw3 hv' hvo M3 => ?_
    have M4 : Hp aw0 own ro aw3 ((xb, ⟨[.int .u64 (es[i].term : Int), .int .u64 (es[i].session : Int), .int .u64 (es[i].number : Int), cv], 40, 0, true, 0⟩) :: ((pb, ⟨{ s with lv := ev }.C, 30, 0, true, 0⟩) :: (rb, ⟨Z16, 30, 0, true, 0⟩) :: (Le ++ (Ln ++ (Sc ++ l))))) := M3.perm (by
      classical exact List.perm_iff_count.2 fun a => by simp only [List.count_append, List.count_cons]; omega)
    refine fldA_x (st_x M4 .here (by repeat constructor) rfl rfl (by simp [hvo]) fun aw4 M5 => ?_)
    refine fldA_x (ldV_x (M5.im (.there .here)) (by repeat constructor) ?_)
    refine ptr_x (gI_x (M5.im .here) (by repeat constructor) (gI_x (M5.im .here) (by repeat constructor) (gI_x (M5.im .here) (by repeat constructor) (gV_x (M5.im .here) (by repeat constructor) ?_))))
    refine alcS_x M5 fun yb aw5 M6 => ?_
    have M7 : Hp aw0 own ro aw5 (Le ++ ((yb, ⟨[.int .u64 (es[i].term : Int), .int .u64 (es[i].session : Int), .int .u64 (es[i].number : Int), v'], 40, 4, true, 0⟩) :: (xb, ⟨[.int .u64 (es[i].term : Int), .int .u64 (es[i].session : Int), .int .u64 (es[i].number : Int), v'], 40, 0, true, 0⟩) :: (pb, ⟨{ s with lv := ev }.C, 30, 0, true, 0⟩) :: (rb, ⟨Z16, 30, 0, true, 0⟩) :: (Ln ++ (Sc ++ l)))) := M6.perm (by
      classical exact List.perm_iff_count.2 fun a => by simp only [List.count_append, List.count_cons]; omega)
    have ho2 : EO aw0 own ro (Ln ++ Sc) 40 ev (es.take i) Le := ho.more fun p hp => List.mem_append_right _ hp
    refine ho2.push (e := es[i]) (cv := v') M7 (by rw [List.length_take]; omega) (src_s (M6.im .here) rfl (by repeat constructor)) (hv'.more fun p hp => List.mem_append_left _ hp) hvo fun ev' Le' aw6 ho3 M8 => ?_
    have M9 : Hp aw0 own ro aw6 ((pb, ⟨{ s with lv := ev }.C, 30, 0, true, 0⟩) :: (rb, ⟨Z16, 30, 0, true, 0⟩) :: (yb, ⟨[.int .u64 (es[i].term : Int), .int .u64 (es[i].session : Int), .int .u64 (es[i].number : Int), v'], 40, 4, true, 0⟩) :: (xb, ⟨[.int .u64 (es[i].term : Int), .int .u64 (es[i].session : Int), .int .u64 (es[i].number : Int), v'], 40, 0, true, 0⟩) :: (Le' ++ ((Ln ++ Sc) ++ l))) := M8.perm (by
      classical exact List.perm_iff_count.2 fun a => by simp only [List.count_append, List.count_cons]; omega)
    refine fldA_x (st_x M9 .here (by repeat constructor) rfl rfl (by simp [ho3.one']) fun aw7 M10 => ?_)
    rw [i64_in (n := (i : Int) + 1) (by omega) (by omega), show (i : Int) + 1 = ((i + 1 : Nat) : Int) by omega]
    have e : es.take (i + 1) = es.take i ++ [es[i]] := by rw [List.take_add_one, hx]; rfl
    rw [← e] at ho3
    exact copy_log hl hes hcl hone hQ n (i + 1) ev' Le' (Ln ++ Sc) aw7 (by omega) ho3 ((M10.drop (.there (.there .here))).drop (.there (.there .here))) hS
structure StS (aw0 : AW) (own : List Nat) (ro S : List (Nat × Blk)) (s : Sv) (es : List En) (ds : List UInt8) (vs ns ms : List Value) : Prop where
  d : Rws aw0 own ro S s.dv ds
  l : EsS aw0 own ro S s.lv es
  v : ArS S 4 s.vv vs
  n : ArS S 24 s.nv ns
  m : ArS S 24 s.mv ms
  od : Go.Am.one s.dv = true
  ol : Go.Am.one s.lv = true
theorem StS.one (h : StS aw0 own ro S s es ds vs ns ms) : s.one := ⟨h.od, h.ol, h.v.one, h.n.one, h.m.one⟩
theorem copy_x {Q : (Int × Int × Int × Int × Int × Int × Int × Value × Value × Int × Int × Int × Int × Value × Value × Value) → AW → Prop} (h : StS aw0 own ro S s es ds vs ns ms) (hes : es.length < 2 ^ 30) (hcl : ∀ e ∈ es, e.cell.length < 2 ^ 44) (hds : ds.length < 2 ^ 44)
    (hv : 0 < vs.length ∧ vs.length < 100 ∧ vs.all Go.Am.one = true) (hn : 0 < ns.length ∧ ns.length < 100 ∧ ns.all Go.Am.one = true) (hm : 0 < ms.length ∧ ms.length < 100 ∧ ms.all Go.Am.one = true) (M : Hp aw0 own ro aw l) (hS : ∀ p ∈ S, p ∈ l)
    (hQ : ∀ dv lv vb nb mb Lr aw', Rws aw0 own ro Lr dv ds → EsS aw0 own ro Lr lv es → Cap lv es.length → Go.Am.one dv = true → Go.Am.one lv = true → Hp aw0 own ro aw' ((vb, ⟨vs, 4, 1, true, 0⟩) :: (nb, ⟨ns, 24, 1, true, 0⟩) :: (mb, ⟨ms, 24, 1, true, 0⟩) :: (Lr ++ l)) →
      Q { s with dv := dv, lv := lv, vv := .slice (some ⟨vb, 0, none⟩) vs.length UNK, nv := .slice (some ⟨nb, 0, none⟩) ns.length UNK, mv := .slice (some ⟨mb, 0, none⟩) ms.length UNK }.T aw') : CallP prog 23 [s.A] aw sh23 Q E := by
  refine F23_ok _ _ _ _ _ _ _ _ _ _ _ _ _ _ _ _ aw ?_
  unfold S23_0
  refine alc_x M fun pb aw1 M1 => alc_x M1 fun rb aw2 M2 => ?_
  refine fldA_x (ldV_x (M2.im (.there .here)) (by repeat constructor) ?_)
  refine clone57_x h.d M2 (fun p hp => List.mem_cons_of_mem _ (List.mem_cons_of_mem _ (hS p hp))) hds fun dv Ld aw3 hdv hdo M3 => ?_
  have M3 : Hp aw0 own ro aw3 (Ld ++ ((rb, ⟨Z16, 30, 0, true, 0⟩) :: (pb, ⟨s.C, 30, 0, true, 0⟩) :: l)) := M3
  have M4 : Hp aw0 own ro aw3 ((pb, ⟨s.C, 30, 0, true, 0⟩) :: (rb, ⟨Z16, 30, 0, true, 0⟩) :: (Ld ++ l)) := M3.perm (by
    classical exact List.perm_iff_count.2 fun a => by simp only [List.count_append, List.count_cons]; omega)
  refine fldA_x (st_x M4 .here (by repeat constructor) rfl rfl (by simp [hdo]) fun aw4 M5 => ?_)
  refine fldA_x (ldV_x (M5.im .here) (by repeat constructor) (fldA_x (ldV_x (M5.im .here) (by repeat constructor) (fldA_x (ldV_x (M5.im .here) (by repeat constructor) ?_)))))
  refine clone58_x h.v hv.1 (by omega) hv.2.2 M5 (fun p hp => List.mem_cons_of_mem _ (List.mem_cons_of_mem _ (List.mem_append_right _ (hS p hp)))) fun vb aw5 M6 => ?_
  refine again_x (M6.im (.there .here)) (by repeat constructor) (again_x (M6.im (.there .here)) (by repeat constructor) (fldA_x ?_))
  refine clone59_x h.n hn.1 (by omega) hn.2.2 M6 (fun p hp => List.mem_cons_of_mem _ (List.mem_cons_of_mem _ (List.mem_cons_of_mem _ (List.mem_append_right _ (hS p hp))))) fun nb aw6 M7 => ?_
  refine again_x (M7.im (.there (.there .here))) (by repeat constructor) ?_
  refine clone59_x h.m hm.1 (by omega) hm.2.2 M7 (fun p hp => List.mem_cons_of_mem _ (List.mem_cons_of_mem _ (List.mem_cons_of_mem _ (List.mem_cons_of_mem _ (List.mem_append_right _ (hS p hp)))))) fun mb aw7 M8 => ?_
  refine st_x M8 (.there (.there (.there .here))) (by repeat constructor) rfl rfl rfl fun aw8 M9 => ?_
  refine fldA_x (st_x M9 (.there (.there (.there .here))) (by repeat constructor) rfl rfl rfl fun aw9 M10 => ?_)
  refine fldA_x (st_x M10 (.there (.there (.there .here))) (by repeat constructor) rfl rfl rfl fun aw10 M11 => ?_)
  refine fldA_x (ldV_x (M11.im (.there (.there (.there .here)))) (by repeat constructor) ?_)
  refine fldA_x (st_x M11 (.there (.there (.there .here))) (by repeat constructor) rfl rfl rfl fun aw11 M12 => ?_)
  obtain ⟨q, c, hq⟩ := h.l.len
  have hsl : ∀ K : Int → Prop, K (es.length : Int) → slen s.lv K := fun K h => by rw [hq]; exact slen_x h
  refine hsl _ ⟨1 + es.length, ?_⟩
  let s' : Sv := { s with dv := dv, lv := nil3, vv := .slice (some ⟨vb, 0, none⟩) vs.length UNK, nv := .slice (some ⟨nb, 0, none⟩) ns.length UNK, mv := .slice (some ⟨mb, 0, none⟩) ms.length UNK }
  have M12 : Hp aw0 own ro aw11 ((mb, ⟨ms, 24, 1, true, 0⟩) :: (nb, ⟨ns, 24, 1, true, 0⟩) :: (vb, ⟨vs, 4, 1, true, 0⟩) :: (pb, ⟨s'.C, 30, 0, true, 0⟩) :: (rb, ⟨Z16, 30, 0, true, 0⟩) :: (Ld ++ l)) := M12
  have M13 : Hp aw0 own ro aw11 ((pb, ⟨s'.C, 30, 0, true, 0⟩) :: (rb, ⟨Z16, 30, 0, true, 0⟩) :: ([] ++ ([] ++ ((vb, ⟨vs, 4, 1, true, 0⟩) :: (nb, ⟨ns, 24, 1, true, 0⟩) :: (mb, ⟨ms, 24, 1, true, 0⟩) :: (Ld ++ l))))) := M12.perm (by
    classical exact List.perm_iff_count.2 fun a => by simp only [List.count_append, List.count_cons, List.count_nil]; omega)
  refine copy_log (s := s') (l := (vb, ⟨vs, 4, 1, true, 0⟩) :: (nb, ⟨ns, 24, 1, true, 0⟩) :: (mb, ⟨ms, 24, 1, true, 0⟩) :: (Ld ++ l)) h.l hes hcl ⟨hdo, rfl, rfl, rfl⟩ (fun ev Lr aw' hev hcap heo M' => ?_) es.length 0 nil3 [] [] aw11 (by omega) EO.nil M13 (fun p hp => List.mem_cons_of_mem _ (List.mem_cons_of_mem _ (List.mem_cons_of_mem _ (List.mem_append_right _ (hS p hp)))))
  refine hQ dv ev vb nb mb (Lr ++ Ld) aw' (hdv.more fun p hp => List.mem_append_right _ hp) (hev.more fun p hp => List.mem_append_left _ hp) hcap hdo heo (M'.perm ?_)
  classical exact List.perm_iff_count.2 fun a => by simp only [List.count_append, List.count_cons]; omega
end
end Go.Proofs.Try
