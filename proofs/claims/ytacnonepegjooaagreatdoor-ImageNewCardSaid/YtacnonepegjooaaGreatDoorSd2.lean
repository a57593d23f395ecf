/- okP, part by part. -/
import Derived.Test.YtacnonepegjooaaGreatDoorL5
set_option linter.unusedSectionVars false
set_option linter.unusedVariables false
set_option linter.unusedSimpArgs false
namespace Go.Ri
open Go Go.Am Go.RowKit
end Go.Ri
namespace Go.Ri
open Go Go.Am Go.RowKit
noncomputable def ancF (ops : Array Oper) : Nat → Nat → Nat → Bool
  | 0, _, _ => false
  | n + 1, j, i => bif Nat.ble j i then false else direct ops j i || ((ops[j]?).map fun (o : Oper) => o.after.any fun e => Region.binds .any e && ancF ops n e.on i).getD false
theorem ancF_anc {ops : Array Oper} : ∀ {n j i : Nat}, ancF ops n j i = true → anc ops n j i = true
  | 0, _, _, h => by cases h
  | n + 1, j, i, h => by
    unfold ancF at h
    cases hb : Nat.ble j i with
    | true => rw [hb] at h; cases h
    | false =>
      rw [hb] at h
      simp only [cond_false, Bool.or_eq_true] at h
      unfold anc
      rw [Bool.or_eq_true]
      rcases h with h | h
      · exact .inl h
      · refine .inr ?_
        cases ho : ops[j]? with
        | none => rw [ho] at h; cases h
        | some o =>
          rw [ho] at h
          simp only [Option.map_some, Option.getD_some, Array.any_eq_true, Bool.and_eq_true] at h ⊢
          obtain ⟨e, h1, h2, h3⟩ := h
          exact ⟨e, h1, h2, ancF_anc h3⟩
noncomputable def pendF (ops : Array Oper) : List Nat → Tl → Bool
  | _, [] => true
  | p, (t, q, nh) :: r => (p.all fun i => q.contains i || ancF ops ops.size t i) && (nh.all fun i => ancF ops ops.size i t) && pendF ops (q ++ nh) r
theorem pendF_ok {ops : Array Oper} : ∀ {p : List Nat} {tl : Tl}, pendF ops p tl = true → pendOk ops p tl = true
  | _, [], _ => rfl
  | p, (t, q, nh) :: r, h => by
    simp only [pendF, pendOk, Bool.and_eq_true, List.all_eq_true, Bool.or_eq_true] at h ⊢
    exact ⟨⟨fun i hi => (h.1.1 i hi).imp id ancF_anc, fun i hi => ancF_anc (h.1.2 i hi)⟩, pendF_ok h.2⟩
noncomputable def chainF (ops : Array Oper) : List Nat → Bool
  | [] => true
  | [_] => true
  | a :: b :: r => ancF ops ops.size b a && chainF ops (b :: r)
theorem chainF_ok {ops : Array Oper} : ∀ {l : List Nat}, chainF ops l = true → chainOk ops l = true
  | [], _ => rfl
  | [_], _ => rfl
  | a :: b :: r, h => by
    simp only [chainF, chainOk, Bool.and_eq_true] at h ⊢
    exact ⟨ancF_anc h.1, chainF_ok h.2⟩
noncomputable def linF (ops : Array Oper) (p : List Nat) (tl : Tl) : Bool :=
  ((quietOf p tl).all fun i => decide (i < ops.size) && (dstOf ops i).isSome && ((quietOf p tl).all fun j => i == j || dstOf ops i != dstOf ops j) && tl.all fun e => dstOf ops i != dstOf ops e.1 && i != e.1) &&
  (tl.all fun e => decide (e.1 < ops.size)) &&
  ((List.range ops.size).all fun j => p.contains j || tl.any fun e => j == e.1 || e.2.2.contains j) &&
  ((List.range ops.size).all fun j => ((ops[j]?).map fun (o : Oper) => o.after.all fun e => !Region.binds .any e || decide (e.on < j)).getD true) &&
  ((List.range ops.size).all fun j => ((ops[j]?).map fun (o : Oper) => (looks ops o).all fun t => (quietOf p tl).all fun i => dstOf ops i != some t || ancF ops ops.size j i).getD true) &&
  chainF ops (tl.map (·.1)) && pendF ops p tl && (decide (tl.map (·.1)).Nodup)
theorem linF_ok {ops : Array Oper} {p : List Nat} {tl : Tl} (h : linF ops p tl = true) : linOk ops p tl = true := by
  unfold linF at h
  unfold linOk
  simp only [Bool.and_eq_true] at h ⊢
  obtain ⟨⟨⟨⟨⟨⟨⟨h1, h2⟩, h3⟩, h4⟩, h5⟩, h6⟩, h7⟩, h8⟩ := h
  refine ⟨⟨⟨⟨⟨⟨⟨h1, h2⟩, h3⟩, h4⟩, ?_⟩, chainF_ok h6⟩, pendF_ok h7⟩, h8⟩
  rw [List.all_eq_true] at h5 ⊢
  intro j hj
  have := h5 j hj
  cases ho : ops[j]? with
  | none => rfl
  | some o =>
    rw [ho] at this
    simp only [Option.map_some, Option.getD_some, List.all_eq_true, Bool.or_eq_true] at this ⊢
    exact fun t ht i hi => (this t ht i hi).imp id ancF_anc
noncomputable def okCF (tab : Tab) (N : Nat) : Code → Bool
  | .region id ops draw => dstsOk N ops && (match draw with
    | false => true
    | true => (match tab id with
      | none => true
      | some (hs, tl) => linF ops hs tl))
  | .seq x y => okCF tab N x && okCF tab N y
  | .cond _ x y => okCF tab N x && okCF tab N y
  | .block _ c => okCF tab N c
  | .loop c => okCF tab N c
  | .scope c => okCF tab N c
  | _ => true
theorem okCF_ok {tab : Tab} {N : Nat} : ∀ {c : Code}, okCF tab N c = true → okC tab N c = true := by
  intro c
  induction c with
  | region id ops draw =>
    intro h
    simp only [okCF, okC, Bool.and_eq_true] at h ⊢
    refine ⟨h.1, ?_⟩
    cases draw with
    | false => rfl
    | true =>
      have h2 := h.2
      simp only at h2 ⊢
      cases ht : tab id with
      | none => rfl
      | some x =>
        rw [ht] at h2
        exact linF_ok h2
  | seq x y hx hy =>
    intro h
    simp only [okCF, okC, Bool.and_eq_true] at h ⊢
    exact ⟨hx h.1, hy h.2⟩
  | cond a x y hx hy =>
    intro h
    simp only [okCF, okC, Bool.and_eq_true] at h ⊢
    exact ⟨hx h.1, hy h.2⟩
  | block n c hc => intro h; exact hc h
  | loop c hc => intro h; exact hc h
  | scope c hc => intro h; exact hc h
  | _ => intro _; rfl
noncomputable def okPF (tab : Nat → Tab) (fs : List Func) : Nat → Bool := List.rec (motive := fun _ => Nat → Bool) (fun _ => true)
  (fun fn _ ih i => (match fn.body with
    | none => true
    | some c => okCF (tab i) fn.ntmps c) && ih (Nat.succ i)) fs
theorem okPF_ok {tab : Nat → Tab} : ∀ {fs : List Func} {i : Nat}, okPF tab fs i = true → okP tab fs i = true
  | [], _, _ => rfl
  | f :: fs, i, h => by
    have h : ((match f.body with
      | none => true
      | some c => okCF (tab i) f.ntmps c) && okPF tab fs (i + 1)) = true := h
    show ((match f.body with
      | none => true
      | some c => okC (tab i) f.ntmps c) && okP tab fs (i + 1)) = true
    rw [Bool.and_eq_true] at h ⊢
    refine ⟨?_, okPF_ok h.2⟩
    have h1 := h.1
    cases hb : f.body with
    | none => rfl
    | some c =>
      rw [hb] at h1
      exact okCF_ok h1
end Go.Ri
