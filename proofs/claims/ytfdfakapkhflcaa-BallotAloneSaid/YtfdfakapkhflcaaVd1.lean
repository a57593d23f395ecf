/- BallotAlone: the ticks' loop, and the law. -/
import Derived.Test.YtfdfakapkhflcaaVc9
set_option linter.unusedSimpArgs false
set_option linter.unusedVariables false
set_option linter.unusedSectionVars false
set_option maxRecDepth 100000
namespace Go.Proofs.Try
open Go Go.Am Go.RowKit Go.Oc
variable [SymE]
set_option maxHeartbeats 1000000
section
variable {aw0 aw aw1 : AW} {own : List Nat} {ro l l' S Sc : List (Nat × Blk)} {s : Sv} {es : List En} {E : List PanicEntry → AW → Prop} {ds : List UInt8} {v0 n0 v : Value} {m0 : Int} {vs ns ms : List Value}
theorem led_x {Q : Bool → AW → Prop} {cv : Value} {bss : List (List UInt8)} {sb k : Nat} {d : Int} (hn : bss.length ≤ 20) (hQ : ∀ aw, Q true aw) (hcs : CsS aw0 own ro cv bss)
    (h : StS aw0 own ro S s [⟨1, 0, 0, []⟩] [] [.bool true] [U 1] [U 1]) (f1 : s.N = 1) (f2 : s.Self = 0) (f3 : s.Role = 2) (f4 : s.Base = 0) (f5 : s.Term = 1) (f6 : s.Commit = 1) (M : Hp aw0 own ro aw ((sb, ⟨s.C, 30, 0, true, 0⟩) :: l)) (hS : ∀ p ∈ S, p ∈ l) :
    S3_1 Q E 1 cv d (k : Int) (Pt sb) (k : Int) aw := by
  show S3_1s Q E _ _ _ _ _ _ _
  unfold S3_1s
  refine cnd_0x (decide_eq_false (by omega)) (fldA_x (ldI_x (M.im .here) (by repeat constructor) (cnd_0x (by rw [f3]; rfl) ?_)))
  refine fldA_x (ldI_x (M.im .here) (by repeat constructor) (cnd_0x (by rw [f5]; rfl) ?_))
  refine fldA_x (ldI_x (M.im .here) (by repeat constructor) (cnd_0x (by rw [f6]; rfl) ⟨1 + bss.length, ?_⟩))
  exact cells_x hn hQ bss.length 0 aw0 own 1 s _ S l aw (by omega) hcs h f1 f2 f3 f4 f5 f6 rfl (fun e he => by obtain rfl := List.mem_singleton.1 he; exact Nat.zero_le _) M hS
theorem ticks_x {Q : Bool → AW → Prop} {cv : Value} {bss : List (List UInt8)} {sb k : Nat} {d : Int} (hn : bss.length ≤ 20) (hk : k ≤ 1000) (hQ : ∀ aw, Q true aw) (hcs : CsS aw0 own ro cv bss) : ∀ (n i : Nat) (s : Sv) (S l : List (Nat × Blk)) (aw : AW), i + n + 1 = k →
    StS aw0 own ro S s [] [] [.bool false] [U 0] [U 0] → s.N = 1 → s.Self = 0 → s.Role = 0 → s.Base = 0 → s.Term = 0 → s.Commit = 0 → s.Left = (n + 1 : Nat) → Hp aw0 own ro aw ((sb, ⟨s.C, 30, 0, true, 0⟩) :: l) → (∀ p ∈ S, p ∈ l) →
    S3_1 Q E (1 + n + 1) cv d (k : Int) (Pt sb) (i : Int) aw := by
  intro n
  induction n with
  | zero =>
    intro i s S l aw hi h f1 f2 f3 f4 f5 f6 f7 M hS
    show S3_1s Q E (S3_1 Q E 1) _ _ _ _ _ _
    unfold S3_1s
    refine cnd_1x (decide_eq_true (by omega)) (fldA_x (ldI_x (M.im .here) (by repeat constructor) (cnd_0x (by rw [f3]; rfl) ?_)))
    refine rd16 (s := s) (r := []) (M.im .here) ?_
    refine tick_x h f1 f2 f3 f4 f5 f6 (by omega) (by omega) rfl rfl M (fun p hp => List.mem_cons_of_mem _ (hS p hp)) (fun _ _ _ _ _ _ _ _ _ _ _ hlt => absurd hlt (by omega)) ?_
    intro _ s' Sn aw1 h' e1 e2 e3 e4 e5 e6 M1
    have M2 : Hp aw0 own ro aw1 ((sb, ⟨s.C, 30, 0, true, 0⟩) :: (Sn ++ l)) := M1.perm List.perm_middle
    refine st_x M2 .here (by repeat constructor) rfl rfl h'.one.all fun aw2 M3 => ?_
    refine slen_x (cnd_0x rfl ?_)
    rw [i64_in (n := (i : Int) + 1) (by omega) (by omega), show (i : Int) + 1 = (k : Int) by omega]
    exact led_x hn hQ hcs h' e1 e2 e3 e4 e5 e6 M3 (fun p hp => List.mem_append_left _ hp)
  | succ n ih =>
    intro i s S l aw hi h f1 f2 f3 f4 f5 f6 f7 M hS
    show S3_1s Q E (S3_1 Q E (1 + n + 1)) _ _ _ _ _ _
    unfold S3_1s
    refine cnd_1x (decide_eq_true (by omega)) (fldA_x (ldI_x (M.im .here) (by repeat constructor) (cnd_0x (by rw [f3]; rfl) ?_)))
    refine rd16 (s := s) (r := []) (M.im .here) ?_
    refine tick_x h f1 f2 f3 f4 f5 f6 (by omega) (by omega) rfl rfl M (fun p hp => List.mem_cons_of_mem _ (hS p hp)) ?_ (fun h1 => absurd h1 (by omega))
    intro s' Sn aw1 h' e1 e2 e3 e4 e5 e6 e7 _ M1
    have M2 : Hp aw0 own ro aw1 ((sb, ⟨s.C, 30, 0, true, 0⟩) :: (Sn ++ l)) := M1.perm List.perm_middle
    refine st_x M2 .here (by repeat constructor) rfl rfl h'.one.all fun aw2 M3 => ?_
    refine slen_x (cnd_0x rfl ?_)
    rw [i64_in (n := (i : Int) + 1) (by omega) (by omega), show (i : Int) + 1 = ((i + 1 : Nat) : Int) by omega]
    exact ih (i + 1) s' Sn (Sn ++ l) aw2 (by omega) h' e1 e2 e3 e4 e5 e6 (by omega) M3 (fun p hp => List.mem_append_left _ hp)
theorem alone_x (hA : Awk) {cv : Value} {bss : List (List UInt8)} {w d : Int} (hG : prog.globals.size ≤ aw0.next) (h0 : 0 ≤ w) (h1 : w < 256) (hcs : CsS aw0 [] [] cv bss) : CallP prog 3 [.int .u8 w, cv, .int .i64 d] aw0 sh3 (fun r _ => r = true) (fun _ _ => False) := by
  refine F3_ok _ _ _ aw0 ?_
  unfold S3_0
  refine hA _ _ _ hG (cnd_0x rfl ?_)
  obtain ⟨q, c, hq⟩ := hcs.len
  have hsl : ∀ K : Int → Prop, K (bss.length : Int) → slen cv K := fun K h => by rw [hq]; exact slen_x h
  refine hsl _ ?_
  by_cases hl : 20 < bss.length
  · exact cnd_1x (decide_eq_true (by omega)) (hA _ _ _ hG rfl)
  refine cnd_0x (decide_eq_false (by omega)) ?_
  obtain ⟨k, hk, k2, k52⟩ : ∃ k : Nat, IntKind.i64.wrap (2 + Int.tmod (IntKind.i64.wrap w) 50) = (k : Int) ∧ 2 ≤ k ∧ k < 52 := by
    refine ⟨2 + w.toNat % 50, ?_, by omega, by omega⟩
    rw [i64_in (n := w) (by omega) (by omega), Int.tmod_eq_emod_of_nonneg h0, i64_in (by omega) (by omega)]
    omega
  rw [hk]
  refine new_x (by omega) (by omega) (hp0 aw0) fun s Sn aw1 h f1 f2 f3 f4 f5 f6 f7 M1 => ?_
  refine alc_x M1 fun sb aw2 M2 => st_x M2 .here (by repeat constructor) rfl rfl h.one.all fun aw3 M3 => ?_
  have M3 : Hp aw0 [] [] aw3 ((sb, ⟨s.C, 30, 0, true, 0⟩) :: (Sn ++ [])) := M3
  refine cnd_0x rfl ⟨1 + (k - 1) + 1, ?_⟩
  exact ticks_x (k := k) (Q := fun r _ => r = true) (by omega) (by omega) (fun _ => rfl) hcs (k - 1) 0 s Sn (Sn ++ []) aw3 (by omega) h f1 f2 f3 f4 f5 f6 (by rw [f7]; omega) M3 (fun p hp => List.mem_append_left _ hp)
end
end Go.Proofs.Try
