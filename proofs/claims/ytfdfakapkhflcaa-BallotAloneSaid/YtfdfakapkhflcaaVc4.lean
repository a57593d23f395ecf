/- ballot: a step's functions. -/
import Derived.Test.YtfdfakapkhflcaaVc3
import Derived.Test.YtfdfakapkhflcaaBcC
set_option linter.unusedSimpArgs false
set_option linter.unusedVariables false
set_option linter.unusedSectionVars false
set_option maxRecDepth 100000
namespace Go.Proofs.Try
open Go Go.Am Go.RowKit Go.Oc
variable [SymE]
set_option maxHeartbeats 1000000
abbrev PB (s : Sv) (out : Value) : Blk := ⟨s.C ++ [out], 76, 0, true, 0⟩
section
variable {aw0 aw : AW} {own : List Nat} {ro l S : List (Nat × Blk)} {pb mb : Nat} {s : Sv} {out : Value} {es : List En} {E : List PanicEntry → AW → Prop} {ms : List Int}
def cm (s : Sv) (es : List En) (x : Int) : Int := if (tAt s.Base s.BTerm es x).2 = true ∧ s.Commit < x ∧ (tAt s.Base s.BTerm es x).1 = s.Term then x else s.Commit
theorem sure_x {Q : Unit → AW → Prop} {c : Nat} (hl : EsS aw0 own ro S s.lv es) (ho : s.one) (hmv : s.mv = .slice (some ⟨mb, 0, none⟩) ms.length c) (hN : s.N = ms.length) (h0 : 0 < ms.length) (hn : ms.length ≤ 12) (hms : ∀ y ∈ ms, 0 ≤ y ∧ y < 2 ^ 64) (hb : 0 ≤ s.Base) (hbe : s.Base + es.length < 2 ^ 63)
    (M : Hp aw0 own ro aw ((pb, PB s out) :: l)) (hmb : At l mb (YB ms)) (hS : ∀ p ∈ S, p ∈ l) (hQ : ∀ x aw', x ∈ ms → Hp aw0 own ro aw' ((pb, PB { s with Commit := cm s es x } out) :: l) → Q () aw') : CallP prog 61 [Pt pb] aw sh61 Q E := by
  refine F61_ok _ aw ?_
  unfold S61_0
  refine nck_x (fldA_x (fldA_x (ldV_x (M.im .here) (by repeat constructor) ?_)))
  refine F73_ok _ aw ?_
  unfold S73_0
  refine ⟨ho.m, alc_x M fun bx aw1 M1 => ?_⟩
  refine sorted_x (P := fun y => y ∈ ms) (ys := ms) (b0 := mb) (c := c) (B := YB ms) (BX := ⟨[s.mv], 28, 0, true, 0⟩) h0 hn (fun y h => h) rfl (.there (.there hmb)) .here (by rw [hmv]; rfl) M1 fun db ys' aw2 hl' hm' M2 => ?_
  refine nck_x (fldA_x (fldA_x (ldI_x (M2.im (.there (.there .here))) (by repeat constructor) ?_)))
  obtain ⟨k, hk, hk2⟩ : ∃ k : Nat, IntKind.i64.wrap (Int.tdiv (IntKind.i64.wrap (s.N - 1)) 2) = (k : Int) ∧ k < ms.length := by
    refine ⟨(ms.length - 1) / 2, ?_, by omega⟩
    rw [hN, i64_in (n := (ms.length : Int) - 1) (by omega) (by omega), Int.tdiv_eq_ediv_of_nonneg (by omega), i64_in (by omega) (by omega)]
    omega
  rw [hk]
  have hx : ys'[k]? = some ys'[k] := List.getElem?_eq_getElem (by omega)
  have ck : Cell (YB ys').cells (0 + ((k : Nat) : Int).toNat * 1) (U ys'[k]) := cellO (by
    rw [show 0 + ((k : Nat) : Int).toNat * 1 = k by omega]
    show (ys'.map U)[k]? = _
    rw [List.getElem?_map, hx]; rfl)
  have hxm : ys'[k] ∈ ms := hm' _ (List.getElem_mem _)
  have hxb := hms _ hxm
  refine ixS_x (by omega) (by omega) (ldI_x (M2.im .here) ck ?_)
  refine nck_x (fldA_x (rd16 (r := [out]) (M2.im (.there (.there .here))) ?_))
  refine termAt_x hl ho hb hbe hxb.1 hxb.2 M2 (fun p hp => List.mem_cons_of_mem _ (List.mem_cons_of_mem _ (List.mem_cons_of_mem _ (hS p hp)))) fun aw3 M3 => ?_
  have M4 : Hp aw0 own ro aw3 ((pb, PB s out) :: l) := (M3.drop .here).drop .here
  have done : cm s es ys'[k] = s.Commit → Q () aw3 := fun e => by
    refine hQ ys'[k] aw3 hxm ?_
    rw [e]; exact M4
  cases h1 : (tAt s.Base s.BTerm es ys'[k]).2 with
  | false =>
    exact cnd_0x rfl (done (by unfold cm; rw [if_neg (by rw [h1]; simp)]))
  | true =>
    refine cnd_1x rfl (nck_x (fldA_x (fldA_x (ldI_x (M4.im .here) (by repeat constructor) ?_))))
    by_cases h2 : s.Commit < ys'[k]
    · refine cnd_1x (decide_eq_true h2) (nck_x (fldA_x (fldA_x (ldI_x (M4.im .here) (by repeat constructor) ?_))))
      by_cases h3 : (tAt s.Base s.BTerm es ys'[k]).1 = s.Term
      · refine cnd_1x (decide_eq_true h3) (nck_x (fldA_x (fldA_x ?_)))
        have e : cm s es ys'[k] = ys'[k] := by unfold cm; rw [if_pos ⟨h1, h2, h3⟩]
        refine st_x M4 .here (by repeat constructor) rfl rfl rfl fun aw4 M5 => hQ ys'[k] aw4 hxm ?_
        rw [e]; exact M5
      · exact cnd_0x (decide_eq_false h3) (done (by unfold cm; rw [if_neg (fun h => h3 h.2.2)]))
    · exact cnd_0x (decide_eq_false h2) (done (by unfold cm; rw [if_neg (fun h => h2 h.2.1)]))
theorem others_x {Q : Unit → AW → Prop} {f : Value} (hN : s.N = 1) (hs : s.Self = 0) (M : Hp aw0 own ro aw l) (hp : At l pb (PB s out)) (hQ : Q () aw) : CallP prog 24 [Pt pb, f] aw sh24 Q E := by
  refine F24_ok _ _ aw ?_
  unfold S24_0
  refine nck_x (fldA_x (fldA_x (ldI_x (M.im hp) (by repeat constructor) ⟨1 + 1, ?_⟩)))
  rw [hN]
  show S24_1s Q E (S24_1 Q E 1) _ _ _ _ aw
  unfold S24_1s
  refine cnd_1x rfl (nck_x (fldA_x (fldA_x (ldI_x (M.im hp) (by repeat constructor) ?_))))
  rw [hs]
  refine cnd_0x rfl ?_
  unfold S24_2
  show S24_1s Q E (S24_1 Q E 0) _ _ _ _ aw
  unfold S24_1s
  exact cnd_0x rfl hQ
theorem push3 {v : Value} (hl : EsS aw0 own ro S v es) (hcap : Cap v es.length) (hes : es.length < 2 ^ 30) : ∃ v', Cut3 4 v 0 (es.length : Int) (es.length : Int) v' ∧ ∀ (aw : AW) (l : List (Nat × Blk)) (yb : Nat) (e : En) (cv : Value) (K : Value → AW → Prop),
    Hp aw0 own ro aw l → (∀ p ∈ S, p ∈ l) → At l yb ⟨[.int .u64 e.term, .int .u64 e.session, .int .u64 e.number, cv], 40, 4, true, 0⟩ →
    (∀ vs b aw', EnR (Rws aw0 own ro S) es vs → Hp aw0 own ro aw' ((b, ⟨vs ++ [.int .u64 e.term, .int .u64 e.session, .int .u64 e.number, cv], 40, 4, true, 0⟩) :: l) → K (.slice (some ⟨b, 0, none⟩) (es.length + 1) UNK) aw') → app aw 40 4 48 v' (.slice (some ⟨yb, 0, none⟩) 1 1) K := by
  have hsrc : ∀ {aw : AW} {l : List (Nat × Blk)} {yb : Nat} {e : En} {cv : Value}, Hp aw0 own ro aw l → At l yb ⟨[.int .u64 e.term, .int .u64 e.session, .int .u64 e.number, cv], 40, 4, true, 0⟩ → Src aw 4 (.slice (some ⟨yb, 0, none⟩) 1 1) 1 [.int .u64 e.term, .int .u64 e.session, .int .u64 e.number, cv] := fun M hx => src_s (M.im hx) rfl (by repeat constructor)
  cases hl with
  | nil =>
    exact ⟨_, .nil, fun aw l yb e cv K M hS hx K1 => ⟨_, _, .grows (os := []) .nil (hsrc M hx) (by decide) (by decide) (by decide), K1 [] _ _ .nil (M.alloc (cs := [.int .u64 e.term, .int .u64 e.session, .int .u64 e.number, cv]) 40 4)⟩⟩
  | emp =>
    rename_i b off c
    exact ⟨_, .some (lo := 0) (hi := 0) (mx := 0) (Nat.le_refl _) (Nat.le_refl _) (by split <;> omega) (by decide), fun aw l yb e cv K M hS hx K1 => ⟨_, _, .grows (os := []) (.slice rfl) (hsrc M hx) (by decide) (by decide) (by decide), K1 [] _ _ .nil (M.alloc (cs := [.int .u64 e.term, .int .u64 e.session, .int .u64 e.number, cv]) 40 4)⟩⟩
  | «at» hb hs =>
    rename_i b off c vs
    refine ⟨_, .some (lo := 0) (hi := es.length) (mx := es.length) (Nat.zero_le _) (Nat.le_refl _) ?_ (by show es.length < 2 ^ 64; omega), fun aw l yb e cv K M hS hx K1 => ?_⟩
    · rcases hcap with h | ⟨b', h⟩
      · cases h
      · injection h with _ _ h
        subst h
        rw [if_neg (Nat.lt_irrefl _)]; exact Nat.le_refl _
    · obtain ⟨B, hB, hcell⟩ := hb aw l M hS
      have hlen := hs.len
      have hg : aw.getN b off (es.length * 4) = some vs := by
        have := AW.getN_of (aw := aw) (b := b) (cs := vs) (i := off) fun j u hj => get_m hB (hcell j u hj)
        rw [hlen, Nat.mul_comm] at this
        exact this
      exact ⟨_, _, .grows (os := vs) (.slice (by rw [Nat.zero_mul, Nat.add_zero]; exact hg)) (hsrc M hx) (by show es.length - 0 < 2 ^ 64; omega) (by omega) (by omega), K1 vs _ _ hs (M.alloc (cs := vs ++ [.int .u64 e.term, .int .u64 e.session, .int .u64 e.number, cv]) 40 4)⟩
theorem pushed {Sn : List (Nat × Blk)} {vs : List Value} {b : Nat} {e : En} {cv : Value} (h : EnR (Rws aw0 own ro S) es vs) (hc : Rws aw0 own ro Sn cv e.cell) (ho : Go.Am.one cv = true) :
    EsS aw0 own ro ((b, ⟨vs ++ [.int .u64 e.term, .int .u64 e.session, .int .u64 e.number, cv], 40, 4, true, 0⟩) :: (Sn ++ S)) (.slice (some ⟨b, 0, none⟩) (es.length + 1) UNK) (es ++ [e]) := by
  have hl : es.length + 1 = (es ++ [e]).length := by simp
  rw [hl]
  refine .at (vs := vs ++ [.int .u64 e.term, .int .u64 e.session, .int .u64 e.number, cv]) (fun aw L M hS => ⟨_, (M.at_ _ (hS _ (List.mem_cons_self ..))).1, fun i v hi => by simpa using hi⟩) ?_
  refine (h.mono fun v bs hv => hv.more fun p hp => List.mem_cons_of_mem _ (List.mem_append_right _ hp)).append (.cons (hc.more fun p hp => List.mem_cons_of_mem _ (List.mem_append_left _ hp)) ho .nil)
end
end Go.Proofs.Try
