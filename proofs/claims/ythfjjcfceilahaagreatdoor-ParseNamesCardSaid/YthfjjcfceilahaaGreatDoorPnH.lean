/- A known call: pattern, where the texts that it sorts are symbols. -/
import Derived.Test.YthfjjcfceilahaaGreatDoorPnA
import Derived.Test.YthfjjcfceilahaaGreatDoorPnSh
import Derived.Test.YthfjjcfceilahaaGreatDoorQTab
import Derived.Test.YthfjjcfceilahaaGreatDoorSk2
set_option linter.unusedSimpArgs false
set_option linter.unusedVariables false
set_option linter.unusedSectionVars false
namespace Go.Proofs.YthfjjcfceilahaaGreatDoor
open Go Go.Am Go.Ri Go.RowKit
open Go.Proofs (encStr)
variable [SymE]
noncomputable def fM {R : Type} (M : Mem) (k : Mem → R) : R := Mem.rec (motive := fun _ => R) (fun bl nx mp => k ⟨bl, nx, mp⟩) M
theorem fM_eq {R : Type} (M : Mem) (k : Mem → R) : fM M k = k M := by cases M; rfl
abbrev l4 (k : Int) (s : ByteArray) (j : Int) (v : Value) : List Value := [.int .u8 k, .string s, .int .i64 j, v]
def agg4 : List Value → Option (Int × ByteArray × Int × Value)
  | [.int .u8 k, .string s, .int .i64 j, .slice q a c] => some (k, s, j, .slice q a c)
  | _ => none
theorem agg4_eq {l : List Value} {k : Int} {s : ByteArray} {j : Int} {v : Value} (h : agg4 l = some (k, s, j, v)) : l = l4 k s j v ∧ Am.one v = true := by
  unfold agg4 at h
  split at h
  · cases h; exact ⟨rfl, rfl⟩
  · cases h
abbrev Z4 : List Value := l4 0 (⟨#[]⟩ : ByteArray) 0 (.slice none 0 0)
noncomputable def chkB (NS : List Value) (M : Mem) (bl n : Nat) : Bool := match M.at bl with
  | some B => (match M.getN bl 0 n with
    | some l => (B.rw && (Nat.beq B.fz 0 && Nat.beq B.len n)) && vEq.lEq (vEq 2) l NS
    | none => false)
  | none => false
theorem chkB_spec {NS : List Value} {M : Mem} {bl n : Nat} (h : chkB NS M bl n = true) : ∃ B, M.abs.m bl = some B ∧ B.rw = true ∧ B.fz = 0 ∧ B.cells = NS ∧ NS.length = n := by
  unfold chkB at h
  split at h
  · rename_i B hB
    split at h
    · rename_i l hl
      simp only [Bool.and_eq_true] at h
      obtain ⟨⟨h1, h2, h3⟩, h4⟩ := h
      have h2 := Nat.eq_of_beq_eq_true h2
      have h3 := Nat.eq_of_beq_eq_true h3
      have h4 := lEq_spec (vEq_spec 2) h4
      subst h4
      have hm := M.abs_m hB
      have hg := Mem.getN_spec hl
      have hw := getN_whole hm
      rw [B.abs_len, h3] at hw
      rw [hg] at hw
      have hw := Option.some.inj hw
      refine ⟨B.abs, hm, h1, h2, hw.symm, ?_⟩
      rw [hw, B.abs_len, h3]
    · cases h
  · cases h
noncomputable def orPat (w : Bool) (NS : List Value) (C : Caller) : Caller := fun f args M => bif Nat.beq f 71 then (match args with
  | [.pointer (some ⟨b, o, none⟩)] => fM (M.alloc Z4 44 0) fun M0 => (match M0.get b (o + 1) with
    | some (.int .i64 at') => (match C 81 [.pointer (some ⟨b, o, none⟩)] M0 with
      | some (.returned (.agg ⟨l1⟩), M1) => (match agg4 l1 with
        | some (k1, s1, j1, v1) => fM (M1.alloc (l4 k1 s1 j1 v1) 44 0) fun M2 => (match C 16 [.agg ⟨l4 k1 s1 j1 v1⟩] M2 with
          | some (.returned (.slice (some ⟨bl, 0, none⟩) n c), M3) => (match M3.getN M1.next 0 4 with
            | some l2 => (match agg4 l2 with
              | some (k2, s2, j2, v2) => bif chkB NS M3 bl n && !(Nat.beq bl M1.next) then fM (M3.kill bl) fun M4 => (match C 16 [.agg ⟨l4 k2 s2 j2 v2⟩] M4 with
                | some (.returned (.slice q n2 c2), M5) => bif Nat.beq n2 n then (bif w then (match C 23 [.pointer (some ⟨b, o, none⟩), .int .i64 at', .int .i64 7] M5 with
                    | some (.panicked ch, M6) => some (.panicked ch, M6)
                    | _ => none)
                  else (match M5.getN M1.next 0 4 with
                    | some l3 => (match agg4 l3 with
                      | some (k3, s3, j3, v3) => (match M5.setN M.next 0 (l4 k3 s3 j3 v3) with
                        | some M6 => (match M6.getN M.next 0 4 with
                          | some l5 => (match agg4 l5 with
                            | some (k5, s5, j5, v5) => some (.returned (.agg ⟨l4 k5 s5 j5 v5⟩), M6)
                            | none => none)
                          | none => none)
                        | none => none)
                      | none => none)
                    | none => none)) else none
                | _ => none) else none
              | none => none)
            | none => none)
          | _ => none)
        | none => none)
      | _ => none)
    | _ => none)
  | _ => none) else C f args M
theorem callP_of_cs {α : Type} {P : Program} {C : Caller} (hC : CS P C) {f : FuncId} {args : List Value} {M M' : Mem} {e : AEnd} (h : C f args M = some (e, M')) {sh : α → Value} {K : α → AW → Prop} {E : List PanicEntry → AW → Prop} (hk : Am.Ends sh K E e M'.abs) : CallP P f args M.abs sh K E :=
  ACalls.mono (hC f args M e M' h) fun e' aw' ⟨h1, h2⟩ => by subst h1; subst h2; exact hk
theorem alloc_st {aw : AW} {z cs : List Value} {t e : Nat} (h : z.length = cs.length) : aw.alloc cs t e = (aw.alloc z t e).setN aw.next 0 cs := by
  have hB : (aw.alloc z t e).m aw.next = some ⟨z, t, e, true, 0⟩ := by simp [AW.alloc]
  rw [setN_lay cs hB]
  refine AW.ext' ?_ rfl
  funext c
  simp only [AW.alloc, AW.lay]
  by_cases hc : c = aw.next
  · simp only [hc, if_true, Option.some.injEq, Blk.mk.injEq, and_true, true_and]
    apply List.ext_getElem?
    intro k
    rw [putL_get _ _ _ _ (by omega)]
    by_cases hk : k < cs.length
    · rw [if_pos (by omega), Nat.sub_zero]
    · rw [if_neg (by omega), List.getElem?_eq_none (by omega), List.getElem?_eq_none (by omega)]
  · simp [hc]
theorem getN4 {aw : AW} {b : Nat} {k : Int} {s : ByteArray} {j : Int} {v : Value} (h : aw.getN b 0 4 = some (l4 k s j v)) : aw.get b 0 = some (.int .u8 k) ∧ aw.get b (0 + 1) = some (.string s) ∧ aw.get b (0 + 2) = some (.int .i64 j) ∧ aw.get b (0 + 3) = some v :=
  ⟨AW.getN_get h (j := 0) rfl, AW.getN_get h (j := 1) rfl, AW.getN_get h (j := 2) rfl, AW.getN_get h (j := 3) rfl⟩
theorem orPat_spec {w : Bool} {NS : List Value} {ss : List (List UInt8)} (hE : NS.map den = ss.map encStr) (hw : decide (¬ ss.Nodup) = w) (h0 : 0 < ss.length) (h1 : ss.length < 4611686018427387904) {C : Caller} (hC : CS Tryz.prog C) : CS Tryz.prog (orPat w NS C) := by
  intro f args M e M' h
  have hlen : NS.length = ss.length := by simpa using congrArg List.length hE
  unfold orPat at h
  cases hf : Nat.beq f 71 with
  | false => rw [hf] at h; exact hC f args M e M' h
  | true =>
  obtain rfl := Nat.eq_of_beq_eq_true hf
  rw [hf] at h
  simp only [cond_true] at h
  split at h; rotate_left; · cases h
  rename_i b o
  rw [fM_eq] at h
  split at h; rotate_left; · cases h
  rename_i at' hat
  split at h; rotate_left; · cases h
  rename_i l1 M1 h81
  split at h; rotate_left; · cases h
  rename_i k1 s1 j1 v1 ha1
  obtain ⟨rfl, o1⟩ := agg4_eq ha1
  rw [fM_eq] at h
  split at h; rotate_left; · cases h
  rename_i bl n c M3 h16
  split at h; rotate_left; · cases h
  rename_i l2 hg2
  split at h; rotate_left; · cases h
  rename_i k2 s2 j2 v2 ha2
  obtain ⟨rfl, o2⟩ := agg4_eq ha2
  rw [cond_some] at h
  obtain ⟨hchk, h⟩ := h
  simp only [Bool.and_eq_true, Bool.not_eq_true'] at hchk
  obtain ⟨hchk, hne⟩ := hchk
  have hne : bl ≠ M1.next := fun e => by rw [e] at hne; simp at hne
  obtain ⟨B, hB, hrw, hfz, hcs, hn⟩ := chkB_spec hchk
  obtain rfl : n = ss.length := by rw [← hn, hlen]
  rw [fM_eq] at h
  split at h; rotate_left; · cases h
  rename_i q n2 c2 M5 h16b
  rw [cond_some] at h
  obtain ⟨hn2, h⟩ := h
  obtain rfl := Nat.eq_of_beq_eq_true hn2
  have ht : TxtsAt B ss := ⟨hrw, hfz, by rw [hcs]; exact hE⟩
  refine ACalls.mono (Tryz.F71_ok (Q := fun r aw => e = .returned (Tryz.sh71 r) ∧ aw = M'.abs) (E := fun ch aw => e = .panicked ch ∧ aw = M'.abs) (.pointer (some ⟨b, o, none⟩)) M.abs ?_) (fun e' aw' h => match e', h with
    | .returned _, ⟨r, h1, h2⟩ => by subst h1; exact ⟨h2.1.symm, h2.2⟩
    | .panicked _, h => ⟨h.1.symm, h.2⟩)
  unfold Tryz.S71_0
  refine ⟨_, (M.alloc Z4 44 0).abs, rfl, M.alloc_spec _ _ _, ⟨b, o, rfl⟩, b, o, _, rfl, rfl, b, o + 1, at', rfl, Mem.get_spec hat, ?_⟩
  refine callP_of_cs hC h81 ⟨(k1, s1, j1, v1), rfl, ?_⟩
  refine ⟨_, _, rfl, rfl, ?_⟩
  have hst := alloc_st (aw := M1.abs) (z := Z4) (cs := l4 k1 s1 j1 v1) (t := 44) (e := 0) rfl
  rw [← M1.alloc_spec] at hst
  have hB2 : (M1.alloc (l4 k1 s1 j1 v1) 44 0).abs.m M1.next = some ⟨l4 k1 s1 j1 v1, 44, 0, true, 0⟩ := by
    rw [M1.alloc_spec]
    show (if M1.abs.next = M1.abs.next then _ else _) = _
    rw [if_pos rfl]
  have g0 : ∀ (i : Nat) (v : Value), (l4 k1 s1 j1 v1)[i]? = some v → (M1.alloc (l4 k1 s1 j1 v1) 44 0).abs.get M1.next i = some v := by
    intro i v hv
    rw [AW.get, hB2]; exact hv
  refine ⟨M1.next, 0, _, rfl, ⟨⟨Z4, 44, 0, true, 0⟩, ?_, rfl, Nat.le_refl 4, rfl⟩, by show (true && (true && (true && (Am.one v1 && true)))) = true; rw [o1]; rfl, hst, ?_⟩
  · show (if M1.abs.next = M1.abs.next then _ else _) = _
    rw [if_pos rfl]
  refine ⟨M1.next, 0, rfl, k1, g0 0 _ rfl, s1, g0 1 _ rfl, j1, g0 2 _ rfl, v1, g0 3 _ rfl, ?_⟩
  refine callP_of_cs hC h16 ⟨_, rfl, ?_⟩
  refine ACalls.mono (sort_calls (c := c) (fun blk off cap ss w hH hb hl => Tryz.slices_Sort_string blk off cap ss w hH hb hl) hB ht h0 h1) (fun e' aw' h => ?_)
  obtain ⟨rfl, rfl⟩ := h
  refine ⟨(), rfl, ?_⟩
  obtain ⟨p0, p1, p2, p3⟩ := getN4 (Mem.getN_spec hg2)
  have q1 : ∀ (cs : List Value) i, (putA M3.abs bl B cs).get M1.next i = M3.abs.get M1.next i := fun cs i => by simp only [AW.get, putA_ne (fun e => hne e.symm)]
  refine ⟨M1.next, 0, rfl, k2, by rw [q1]; exact p0, s2, by rw [q1]; exact p1, j2, by rw [q1]; exact p2, v2, by rw [q1]; exact p3, ?_⟩
  have hsl : (ss.mergeSort fun x y => decide (x ≤ y)).length = ss.length := List.length_mergeSort ss
  have ht2 : TxtsAt { B with cells := (ss.mergeSort fun x y => decide (x ≤ y)).map encStr } (ss.mergeSort fun x y => decide (x ≤ y)) := ⟨hrw, hfz, by
    show List.map den (List.map encStr _) = _
    rw [List.map_map]; rfl⟩
  have hcc := compact_calls (c := c) (aw := putA M3.abs bl B ((ss.mergeSort fun x y => decide (x ≤ y)).map encStr)) (b := bl) (fun blk off cap zs w hH h1 h2 => Tryz.slices_Compact_string blk off cap zs w hH h1 h2) putA_at ht2 (by rw [hsl]; exact h0) (by rw [hsl]; exact h1)
  rw [hsl] at hcc
  refine ACalls.mono hcc (fun e' aw' h => ?_)
  obtain ⟨rfl, cs2, rfl⟩ := h
  refine ⟨_, rfl, ?_⟩
  have q2 : ∀ (cs cs' : List Value) (B' : Blk) i, (putA (putA M3.abs bl B cs) bl B' cs').get M1.next i = M3.abs.get M1.next i := fun cs cs' B' i => by simp only [AW.get, putA_ne (fun e => hne e.symm)]
  refine ⟨by rw [q2]; exact p0, by rw [q2]; exact p1, by rw [q2]; exact p2, by rw [q2]; exact p3, _, _, _, _, rfl, rfl, ?_⟩
  refine acalls_kill ?_
  have ek : (putA M3.abs bl B ((ss.mergeSort fun x y => decide (x ≤ y)).map encStr)).kill bl = (M3.kill bl).abs := by
    rw [M3.kill_spec]
    refine AW.ext' ?_ rfl
    funext d
    simp only [AW.kill, putA]
    by_cases hd : d = bl <;> simp [hd]
  rw [ek]
  refine callP_of_cs hC h16b ⟨_, rfl, ?_⟩
  refine ⟨_, _, _, _, rfl, rfl, ?_⟩
  have hw' : decide (((Lib.compact (ss.mergeSort fun x y => decide (x ≤ y))).length : Int) < ((ss.length : Nat) : Int)) = w := by
    rw [← hw, ← compact_lt ss]
    exact decide_eq_decide.2 (by simp only [srt]; omega)
  show cnd (decide (((Lib.compact (ss.mergeSort fun x y => decide (x ≤ y))).length : Int) < ((ss.length : Nat) : Int))) _ _
  rw [hw']
  have tail : ∀ {aw5 : AW}, aw5 = M5.abs → w = false → Tryz.S71_1 (fun r aw => e = .returned (Tryz.sh71 r) ∧ aw = M'.abs) (fun ch aw => e = .panicked ch ∧ aw = M'.abs) (.pointer (some ⟨M.next, 0, none⟩)) (.pointer (some ⟨M1.next, 0, none⟩)) aw5 := by
    intro aw5 ha hwf
    subst ha
    rw [hwf] at h
    simp only [cond_false] at h
    split at h; rotate_left; · cases h
    rename_i l3 hg3
    split at h; rotate_left; · cases h
    rename_i k3 s3 j3 v3 ha3
    obtain ⟨rfl, o3⟩ := agg4_eq ha3
    split at h; rotate_left; · cases h
    rename_i M6 hM6
    split at h; rotate_left; · cases h
    rename_i l5 hg5
    split at h; rotate_left; · cases h
    rename_i k5 s5 j5 v5 ha5
    obtain ⟨rfl, o5⟩ := agg4_eq ha5
    simp only [Option.some.injEq, Prod.mk.injEq] at h
    obtain ⟨rfl, rfl⟩ := h
    obtain ⟨p0, p1, p2, p3⟩ := getN4 (Mem.getN_spec hg3)
    obtain ⟨r0, r1, r2, r3⟩ := getN4 (Mem.getN_spec hg5)
    obtain ⟨u1, u2, u3⟩ := Mem.setN_spec hM6
    unfold Tryz.S71_1
    refine ⟨M1.next, 0, rfl, k3, p0, s3, p1, j3, p2, v3, p3, M.next, 0, M6.abs, rfl, u2, u3, u1, ?_⟩
    exact ⟨M.next, 0, rfl, k5, r0, s5, r1, j5, r2, v5, r3, rfl, rfl⟩
  refine ⟨fun hw1 => ?_, fun hw1 => tail rfl hw1⟩
  rw [hw1] at h
  simp only [cond_true] at h
  split at h; rotate_left; · cases h
  rename_i ch M6 h23
  simp only [Option.some.injEq, Prod.mk.injEq] at h
  obtain ⟨rfl, rfl⟩ := h
  exact callP_of_cs hC h23 ⟨rfl, rfl⟩
end Go.Proofs.YthfjjcfceilahaaGreatDoor
