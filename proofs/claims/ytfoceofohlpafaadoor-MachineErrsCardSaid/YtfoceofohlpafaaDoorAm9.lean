/- Regions whose order Go leaves open: a head of operations that only read, in any order, and a tail in the order of the text. -/
import Derived.Test.YtfoceofohlpafaaDoorAm8
set_option linter.unusedSimpArgs false
set_option linter.unusedVariables false
set_option linter.unusedSectionVars false
namespace Go.Am
open Go Go.RowKit
variable [SymE]

def dstOf (ops : Array Oper) (i : Nat) : Option Tmp := (ops[i]?).bind (fun (o : Oper) => o.dst)
def direct (ops : Array Oper) (j i : Nat) : Bool := ((ops[j]?).map fun (o : Oper) => o.after.any fun e => Region.binds .any e && e.on == i).getD false
/-- i stands ahead of j -/
def anc (ops : Array Oper) : Nat → Nat → Nat → Bool
  | 0, _, _ => false
  | n + 1, j, i => direct ops j i || ((ops[j]?).map fun (o : Oper) => o.after.any fun e => Region.binds .any e && anc ops n e.on i).getD false
def looks (ops : Array Oper) (o : Oper) : List Tmp :=
  (o.op.operands.toList.filterMap fun | .tmp t => some t | _ => none) ++ (match o.guard with | some (g, _) => (dstOf ops g).toList | none => [])
/-- hs: the head; fl: those of it that the tail need not wait for -/
def drawOk (ops : Array Oper) (hs fl : List Nat) : Bool :=
  (hs.all fun i => decide (i < ops.size)) &&
  -- what stands ahead stands ahead in the text
  ((List.range ops.size).all fun j => ((ops[j]?).map fun (o : Oper) => o.after.all fun e => !Region.binds .any e || decide (e.on < j)).getD true) &&
  -- each of the head writes a slot of its own
  (hs.all fun i => (dstOf ops i).isSome && hs.all fun j => i == j || dstOf ops i != dstOf ops j) &&
  -- what one of the head looks at was written ahead of it, or isn't written in the head
  (hs.all fun i => ((ops[i]?).map fun (o : Oper) => (looks ops o).all fun t => hs.all fun j => dstOf ops j != some t || anc ops ops.size i j).getD true) &&
  -- the tail stands behind the head; what stands ahead of one of the head is of the head
  ((List.range ops.size).all fun j => hs.contains j || (hs.all fun i => fl.contains i || anc ops ops.size j i)) &&
  (hs.all fun j => ((ops[j]?).map fun (o : Oper) => o.after.all fun e => !Region.binds .any e || hs.contains e.on).getD true)

/-- what the slots hold when these of the head are done -/
def hEnv (ops : Array Oper) (val : Nat → Value) (ρ : Env) (hs : List Nat) (L : Nat → Bool) : Env := fun t =>
  match hs.find? fun i => L i && dstOf ops i == some t with
  | some i => val i
  | none => ρ t
def putAll (ops : Array Oper) (val : Nat → Value) : Env → List Nat → Env
  | ρ, [] => ρ
  | ρ, i :: hs => putAll ops val (ρ.put (dstOf ops i) (val i)) hs

def listedOf (l : Array Bool) (i : Nat) : Bool := l.getD i true
theorem closed_anc {ops : Array Oper} {l : Array Bool} (hc : ∀ j, listedOf l j = true → j < ops.size → ∀ o, ops[j]? = some o → ∀ e ∈ o.after, Region.binds .any e = true → l.getD e.on false = true) :
    ∀ (n : Nat) {j i : Nat}, (∀ o, ops[j]? = some o → ∀ e ∈ o.after, Region.binds .any e = true → l.getD e.on false = true) → anc ops n j i = true → l.getD i false = true
  | 0, j, i, _, h => by simp [anc] at h
  | n + 1, j, i, hj, h => by
    simp only [anc, Bool.or_eq_true] at h
    rcases h with h | h
    · unfold direct at h
      cases ho : ops[j]? with
      | none => simp [ho] at h
      | some o =>
        simp only [ho, Option.map_some, Option.getD_some, Array.any_eq_true, Bool.and_eq_true, beq_iff_eq] at h
        obtain ⟨k, hk, h1, h2⟩ := h
        have := hj o ho _ (Array.getElem_mem hk) h1
        rw [h2] at this; exact this
    · cases ho : ops[j]? with
      | none => simp [ho] at h
      | some o =>
        simp only [ho, Option.map_some, Option.getD_some, Array.any_eq_true, Bool.and_eq_true] at h
        obtain ⟨k, hk, h1, h2⟩ := h
        have hl := hj o ho _ (Array.getElem_mem hk) h1
        refine closed_anc hc n (j := o.after[k].on) ?_ h2
        intro o' ho' e he hb
        have hlt : o.after[k].on < ops.size := (Array.getElem?_eq_some_iff.1 ho').1
        refine hc _ ?_ hlt o' ho' e he hb
        unfold listedOf
        simp only [Array.getD_eq_getD_getElem?] at hl ⊢
        cases hq : l[o.after[k].on]? with
        | none => simp [hq] at hl
        | some b => simp [hq] at hl ⊢; exact hl

section
variable {P : Program} {N : Nat} {ops : Array Oper} {hs fl : List Nat} {k : List Item} {ρ : Env} {ds : List Deferred} {aw : AW}
  {Kn : Env → List Deferred → AW → Prop} {Kp : List PanicEntry → Env → List Deferred → AW → Prop} {val : Nat → Value}

/-- what is known of one operation of the head -/
def HeadOp (P : Program) (ops : Array Oper) (o : Oper) (ρm : Env) (aw : AW) (v : Value) : Prop :=
  ∀ ρ' : Env, (∀ t ∈ looks ops o, ρ' t = ρm t) →
    (wants ops o ρ' true ∧ OpV P o ρ' aw v aw) ∨ (wants ops o ρ' false ∧ v = undef) ∨
      (wants ops o ρ' true ∧ ∃ fid args, OpC P o ρ' fid args ∧ ACalls P fid args aw fun e aw' => e = .returned v ∧ aw' = aw)

theorem find_congr' {p q : Nat → Bool} : ∀ {l : List Nat}, (∀ j ∈ l, p j = q j) → l.find? p = l.find? q
  | [], _ => rfl
  | a :: l, h => by
    simp only [List.find?_cons]
    rw [h a (by simp), find_congr' (l := l) (fun j hj => h j (by simp [hj]))]

theorem hEnv_agree (hok : drawOk ops hs fl = true) {L : Nat → Bool} {i : Nat} {o : Oper} (hi : i ∈ hs) (ho : ops[i]? = some o) (hL : ∀ j, j ∈ hs → anc ops ops.size i j = true → L j = true) :
    ∀ t ∈ looks ops o, hEnv ops val ρ hs L t = hEnv ops val ρ hs (fun _ => true) t := by
  intro t ht
  simp only [drawOk, Bool.and_eq_true, List.all_eq_true, decide_eq_true_eq] at hok
  obtain ⟨⟨⟨⟨⟨h1, h2⟩, h3⟩, h4⟩, h5⟩, h6⟩ := hok
  have h4' := h4 i hi
  rw [ho] at h4'
  simp only [Option.map_some, Option.getD_some, List.all_eq_true, Bool.or_eq_true, bne_iff_ne, ne_eq] at h4'
  unfold hEnv
  rw [find_congr' (q := fun i => true && dstOf ops i == some t)]
  intro j hj
  rcases h4' t ht j hj with h | h
  · have : (dstOf ops j == some t) = false := by simpa using h
    simp [this]
  · rw [hL j hj h]

theorem find_unique (l : List Nat) (p : Nat → Bool) (i : Nat) (hi : i ∈ l) (hp : p i = true) (hu : ∀ j ∈ l, p j = true → j = i) : l.find? p = some i := by
  induction l with
  | nil => simp at hi
  | cons a l ih =>
    simp only [List.find?_cons]
    by_cases ha : p a = true
    · rw [ha, hu a (by simp) ha]
    · simp only [ha]
      have : i ∈ l := by
        rcases List.mem_cons.1 hi with rfl | h
        · exact absurd hp ha
        · exact h
      exact ih this (fun j hj => hu j (by simp [hj]))

theorem dst_unique (hok : drawOk ops hs fl = true) {i : Nat} (hi : i ∈ hs) : ∃ d, dstOf ops i = some d ∧ ∀ j, j ∈ hs → dstOf ops j = some d → j = i := by
  simp only [drawOk, Bool.and_eq_true, List.all_eq_true, decide_eq_true_eq] at hok
  obtain ⟨⟨⟨⟨⟨h1, h2⟩, h3⟩, h4⟩, h5⟩, h6⟩ := hok
  obtain ⟨h3a, h3b⟩ := h3 i hi
  obtain ⟨d, hd⟩ := Option.isSome_iff_exists.1 h3a
  refine ⟨d, hd, fun j hj hjd => ?_⟩
  have := h3b j hj
  simp only [Bool.or_eq_true, beq_iff_eq, bne_iff_ne, ne_eq] at this
  rcases this with h | h
  · exact h.symm
  · exact absurd (hd.trans hjd.symm) h

theorem hEnv_put (hok : drawOk ops hs fl = true) {L L' : Nat → Bool} {i : Nat} (hi : i ∈ hs) (hL : ∀ j, j ∈ hs → L' j = (L j || j == i)) :
    hEnv ops val ρ hs L' = (hEnv ops val ρ hs L).put (dstOf ops i) (val i) := by
  obtain ⟨d, hd, huniq⟩ := dst_unique hok hi
  funext t
  rw [hd]
  simp only [Env.put_some]
  by_cases htd : t = d
  · subst htd
    rw [if_pos rfl]
    unfold hEnv
    rw [find_unique hs _ i hi (by simp [hL i hi, hd]) (fun j hj hp => by
      simp only [Bool.and_eq_true, beq_iff_eq] at hp
      exact huniq j hj hp.2)]
  · rw [if_neg htd]
    unfold hEnv
    rw [find_congr' (q := fun i => L i && dstOf ops i == some t)]
    intro j hj
    rw [hL j hj]
    by_cases hji : j = i
    · subst hji
      have : (dstOf ops j == some t) = false := by simp [hd]; exact fun h => htd h.symm
      simp [this]
    · have hb : (j == i) = false := by simpa using hji
      rw [hb, Bool.or_false]

theorem hEnv_none (L : Nat → Bool) (h : ∀ j, j ∈ hs → L j = false) : hEnv ops val ρ hs L = ρ := by
  funext t
  unfold hEnv
  have : hs.find? (fun i => L i && dstOf ops i == some t) = none := by
    rw [List.find?_eq_none]
    intro j hj
    simp [h j hj]
  rw [this]
theorem hEnv_congr {L L' : Nat → Bool} (h : ∀ j, j ∈ hs → L j = L' j) : hEnv ops val ρ hs L = hEnv ops val ρ hs L' := by
  funext t
  unfold hEnv
  rw [find_congr' (q := fun i => L' i && dstOf ops i == some t)]
  intro j hj
  rw [h j hj]
theorem hEnv_all (hok : drawOk ops hs fl = true) (hnd : hs.Nodup) (L : Nat → Bool) : hEnv ops val ρ hs L = putAll ops val ρ (hs.filter L) := by
  have key : ∀ (l d : List Nat), hs = d ++ l → putAll ops val (hEnv ops val ρ hs (fun i => d.contains i && L i)) (l.filter L) = hEnv ops val ρ hs L := by
    intro l
    induction l with
    | nil =>
      intro d hd
      simp only [List.filter_nil, putAll]
      refine hEnv_congr fun j hj => ?_
      rw [hd, List.append_nil] at hj
      simp [hj]
    | cons i l ih =>
      intro d hd
      have hnd' := hnd
      rw [hd] at hnd'
      have hni : i ∉ d := fun hi => (List.nodup_append.1 hnd').2.2 i hi i (by simp) rfl
      by_cases hi : L i = true
      · rw [List.filter_cons_of_pos hi]
        simp only [putAll]
        rw [← hEnv_put (L' := fun j => (d ++ [i]).contains j && L j) hok (by rw [hd]; simp) (fun j _ => by
          by_cases hji : j = i
          · subst hji; simp [hi]
          · simp [hji])]
        exact ih (d ++ [i]) (by rw [hd]; simp)
      · rw [List.filter_cons_of_neg hi]
        have := ih (d ++ [i]) (by rw [hd]; simp)
        rw [← this]
        congr 1
        refine hEnv_congr fun j _ => ?_
        by_cases hji : j = i
        · subst hji; simp [hi, hni]
        · simp [hji]
  have h0 := key hs [] rfl
  rw [hEnv_none (fun i => ([] : List Nat).contains i && L i) (fun j _ => by simp)] at h0
  exact h0.symm

/-- the number of those that are still to come -/
def left (l : Array Bool) : Nat := l.toList.countP (fun b => !b)
theorem left_set (l : Array Bool) (i : Nat) (h : l.getD i true = false) : left (l.setIfInBounds i true) + 1 = left l := by
  have hi : i < l.size := by
    rcases Nat.lt_or_ge i l.size with h' | h'
    · exact h'
    · simp [Array.getD, Nat.not_lt.2 h'] at h
  have hv : l.toList[i]? = some false := by
    simp only [Array.getD, hi, dif_pos] at h
    simp [hi]; simpa using h
  unfold left
  rw [Array.toList_setIfInBounds]
  generalize l.toList = xs at hv
  clear h hi
  induction xs generalizing i with
  | nil => simp at hv
  | cons a xs ih =>
    cases i with
    | zero => simp at hv; subst hv; simp [List.set_cons_zero]
    | succ i =>
      simp at hv
      have := ih i hv
      simp only [List.set_cons_succ, List.countP_cons]
      omega

theorem ready_spec {l : Array Bool} {i : Nat} (h : i ∈ Region.ready .any ops l) : i < ops.size ∧ l.getD i true = false ∧ ∀ o, ops[i]? = some o → ∀ e ∈ o.after, Region.binds .any e = true → l.getD e.on false = true := by
  simp only [Region.ready, List.mem_filter, List.mem_range, Bool.and_eq_true, Bool.not_eq_true'] at h
  obtain ⟨h1, h2, h3⟩ := h
  refine ⟨h1, h2, fun o ho e he hb => ?_⟩
  rw [ho] at h3
  simp only [Option.map_some, Option.getD_some, Array.all_eq_true] at h3
  obtain ⟨q, hq, rfl⟩ := Array.getElem_of_mem he
  have := h3 q hq
  simp only [hb, Bool.not_true, Bool.false_or] at this
  exact this
theorem ready_of {l : Array Bool} {i : Nat} (h1 : i < ops.size) (h2 : l.getD i true = false) (h3 : ∀ o, ops[i]? = some o → ∀ e ∈ o.after, Region.binds .any e = true → l.getD e.on false = true) : i ∈ Region.ready .any ops l := by
  simp only [Region.ready, List.mem_filter, List.mem_range, Bool.and_eq_true, Bool.not_eq_true']
  refine ⟨h1, h2, ?_⟩
  have ho : ops[i]? = some ops[i] := Array.getElem?_eq_getElem h1
  rw [ho]
  simp only [Option.map_some, Option.getD_some, Array.all_eq_true]
  intro q hq
  by_cases hb : Region.binds .any ops[i].after[q] = true
  · simp only [hb, Bool.not_true, Bool.false_or]
    exact h3 _ ho _ (Array.getElem_mem hq) hb
  · simp only [Bool.not_eq_true] at hb; simp [hb]

theorem getD_set (l : Array Bool) (i j : Nat) (b : Bool) : (l.setIfInBounds i true).getD j b = if i = j ∧ i < l.size then true else l.getD j b := by
  simp only [Array.getD_eq_getD_getElem?, Array.getElem?_setIfInBounds]
  by_cases hij : i = j
  · subst hij
    by_cases hi : i < l.size
    · simp [hi]
    · simp [hi]
  · simp [hij]

theorem wpOp_Q {Q Q' : Exit → Act → World → Prop} {i : Nat} {K : Act → World → Prop} (h : ∀ ch a w, Q (.panic ch) a w → Q' (.panic ch) a w) (hq : ∀ a w, ¬ Q .outgrown a w) {a : Act} {w : World}
    (hh : wpOp P ops Q i K a w) : wpOp P ops Q' i K a w := by
  unfold wpOp at hh ⊢
  cases ho : ops[i]? with
  | none => simp only [ho] at hh ⊢; exact hh
  | some o =>
    simp only [ho] at hh ⊢
    split
    · rename_i hw
      simp only [hw, if_true] at hh
      rcases hh with hh | ⟨_, a0, w0, hh⟩
      · left
        unfold Oper.wp at *
        generalize (execOp a.eval o).run P w = r at *
        cases r with
        | ok n w' =>
          cases n <;> simp only [Oper.upon] at hh ⊢ <;>
            first
              | exact hh
              | exact Calls.mono hh (fun e w'' he => by
                  cases e with
                  | returned v => exact he
                  | panicked ch => exact h _ _ _ he
                  | outgrown => exact absurd he (by rintro ⟨a, w, hx⟩; exact hq _ _ hx))
        | halt x w' => cases x <;> simp only [Oper.upon] at hh ⊢ <;> first | exact h _ _ _ hh | exact hh
      · exact absurd hh (hq _ _)
    · rename_i hw
      simp only [hw] at hh
      exact hh
theorem wpAny_mono' {Q Q' : Exit → Act → World → Prop} (h : ∀ e a w, Q e a w → Q' e a w) (hq : ∀ a w, ¬ Q .outgrown a w) : ∀ (n : Nat) (l : Array Bool) (a : Act) (w : World), wpAny P .any ops Q n l a w → wpAny P .any ops Q' n l a w
  | 0, l, a, w, hh => ⟨hh.1, h _ _ _ hh.2⟩
  | n + 1, l, a, w, hh => ⟨fun hr => h _ _ _ (hh.1 hr), fun i hi => wpOp_mono (fun a w hx => wpAny_mono' h hq n _ a w hx) (wpOp_Q (fun ch a w => h _ a w) hq (hh.2 i hi))⟩
/-- the tail, in any order that is left -/
def TailAny (P : Program) (N : Nat) (ops : Array Oper) (Kn : Env → List Deferred → AW → Prop) (Kp : List PanicEntry → Env → List Deferred → AW → Prop) : Nat → Array Bool → Env → List Deferred → AW → Prop
  | 0, l, ρ, ds, aw => Region.ready .any ops l = [] ∧ Kn ρ ds aw
  | n + 1, l, ρ, ds, aw => (Region.ready .any ops l = [] → Kn ρ ds aw) ∧
    ∀ i ∈ Region.ready .any ops l, AOps P N ops [i] ρ ds aw (fun ρ' ds' aw' => TailAny P N ops Kn Kp n (l.setIfInBounds i true) ρ' ds' aw') Kp
theorem tail_sound : ∀ (n : Nat) (l : Array Bool) (ρ : Env) (ds : List Deferred) (aw : AW), TailAny P N ops Kn Kp n l ρ ds aw →
    ∀ (base : Nat) (w0 : World) (s : Inj) (a : Act) (w : World), St P.globals.size base w0 s ρ N ds aw a w → wpAny P .any ops (QQ P.globals.size base w0 s N Kn Kp) n l a w
  | 0, l, ρ, ds, aw, h, base, w0, s, a, w, hst => ⟨h.1, s, ρ, ds, aw, Inj.le_refl s, hst, h.2⟩
  | n + 1, l, ρ, ds, aw, h, base, w0, s, a, w, hst => by
    refine ⟨fun hr => ⟨s, ρ, ds, aw, Inj.le_refl s, hst, h.1 hr⟩, fun i hi => ?_⟩
    have hw := h.2 i hi base w0 s a w hst
    rw [wpOps_cons] at hw
    -- the panics are told by the same post
    have : ∀ (r : Act → World → Prop), (∀ a w, wpOps P ops (QQ P.globals.size base w0 s N (fun ρ' ds' aw' => TailAny P N ops Kn Kp n (l.setIfInBounds i true) ρ' ds' aw') Kp) [] a w → r a w) →
        wpOp P ops (QQ P.globals.size base w0 s N (fun ρ' ds' aw' => TailAny P N ops Kn Kp n (l.setIfInBounds i true) ρ' ds' aw') Kp) i r a w := fun r hr => wpOp_mono hr hw
    have hw2 := this (wpAny P .any ops (QQ P.globals.size base w0 s N Kn Kp) n (l.setIfInBounds i true)) (fun a' w' hh => by
      obtain ⟨s', ρ', ds', aw', h1, h2, h3⟩ := hh
      exact wpAny_mono' (fun e a w => QQ.mono h1) (fun a w => QQ.not_outgrown a w) n _ _ _ (tail_sound n _ ρ' ds' aw' h3 base w0 s' a' w' h2))
    exact wpOp_Q (fun ch a w hx => hx) (fun a w => QQ.not_outgrown a w) hw2

/-- all parts of a list -/
def subs : List Nat → List (List Nat)
  | [] => [[]]
  | a :: l => subs l ++ (subs l).map (a :: ·)
theorem filter_subs (p : Nat → Bool) : ∀ l : List Nat, l.filter p ∈ subs l
  | [] => by simp [subs]
  | a :: l => by
    have := filter_subs p l
    by_cases h : p a = true
    · rw [List.filter_cons_of_pos h]; simp only [subs, List.mem_append, List.mem_map]; exact .inr ⟨_, this, rfl⟩
    · rw [List.filter_cons_of_neg h]; simp only [subs, List.mem_append]; exact .inl this
def maskOf (n : Nat) (hs F : List Nat) : Array Bool := (Array.range n).map fun i => hs.contains i && !F.contains i
/-- the tail, whichever of those that float are still to come -/
def TailAll (P : Program) (N : Nat) (ops : Array Oper) (hs : List Nat) (val : Nat → Value) (ρ : Env) (ds : List Deferred) (aw : AW) (Kn : Env → List Deferred → AW → Prop) (Kp : List PanicEntry → Env → List Deferred → AW → Prop) : List (List Nat) → Prop
  | [] => True
  | F :: r => TailAny P N ops Kn Kp (left (maskOf ops.size hs F)) (maskOf ops.size hs F) (putAll ops val ρ (hs.filter fun i => !F.contains i)) ds aw ∧ TailAll P N ops hs val ρ ds aw Kn Kp r
theorem tailAll_get : ∀ {l : List (List Nat)}, TailAll P N ops hs val ρ ds aw Kn Kp l → ∀ F ∈ l, TailAny P N ops Kn Kp (left (maskOf ops.size hs F)) (maskOf ops.size hs F) (putAll ops val ρ (hs.filter fun i => !F.contains i)) ds aw
  | [], _, F, hF => by simp at hF
  | G :: r, h, F, hF => by
    rcases List.mem_cons.1 hF with rfl | hF
    · exact h.1
    · exact tailAll_get h.2 F hF

/-- the slots when the head is done -/
theorem ago_draw {id : Nat} {R : ADone → Env → List Deferred → AW → Prop} (hm : P.follows .mixedOrders = true) (hN : dstsOk N ops = true) (hok : drawOk ops hs fl = true) (hnd : hs.Nodup)
    (hop : ∀ i o, i ∈ hs → ops[i]? = some o → HeadOp P ops o (putAll ops val ρ hs) aw (val i))
    (hk : TailAll P N ops hs val ρ ds aw (fun ρ' ds' aw' => AGo P N k ρ' ds' aw' R) (fun ch ρ' ds' aw' => R (.panic ch) ρ' ds' aw') (subs fl)) :
    AGo P N (.code (.region id ops true) :: k) ρ ds aw R := by
  refine ago_of_wp fun base w0 s a w hst => wp_region_any hm ?_
  have hok' := hok
  simp only [drawOk, Bool.and_eq_true, List.all_eq_true, List.mem_range, decide_eq_true_eq] at hok'
  obtain ⟨⟨⟨⟨⟨h1, h2⟩, h3⟩, h4⟩, h5⟩, h6⟩ := hok'
  have hpre : ∀ j o, ops[j]? = some o → ∀ e ∈ o.after, Region.binds .any e = true → e.on < j := by
    intro j o ho e he hb
    have hlt : j < ops.size := (Array.getElem?_eq_some_iff.1 ho).1
    have := h2 j hlt
    rw [ho] at this
    simp only [Option.map_some, Option.getD_some, Array.all_eq_true] at this
    obtain ⟨q, hq, rfl⟩ := Array.getElem_of_mem he
    have := this q hq
    simp only [hb, Bool.not_true, Bool.false_or, decide_eq_true_eq] at this
    exact this
  have hpre2 : ∀ j, j ∈ hs → ∀ o, ops[j]? = some o → ∀ e ∈ o.after, Region.binds .any e = true → e.on ∈ hs := by
    intro j hj o ho e he hb
    have := h6 j hj
    rw [ho] at this
    simp only [Option.map_some, Option.getD_some, Array.all_eq_true] at this
    obtain ⟨q, hq, rfl⟩ := Array.getElem_of_mem he
    have := this q hq
    simp only [hb, Bool.not_true, Bool.false_or] at this
    simpa using this
  have hall' : putAll ops val ρ hs = hEnv ops val ρ hs (fun _ => true) := by
    have e : hs.filter (fun _ => true) = hs := by simp
    rw [hEnv_all hok hnd, e]
  -- all of the head but what floats is done
  have fin : ∀ (fuel : Nat) (l : Array Bool) (a : Act) (w : World), l.size = ops.size → left l = fuel → (∀ j, j ∉ hs → j < ops.size → l.getD j true = false) → (∀ j, j ∈ hs → fl.contains j = false → l.getD j true = true) →
      ∀ s1 : Inj, s.le s1 → St P.globals.size base w0 s1 (hEnv ops val ρ hs (fun i => l.getD i false)) N ds aw a w →
      wpAny P .any ops (QQ P.globals.size base w0 s N (fun ρ' ds' aw' => AGo P N k ρ' ds' aw' R) (fun ch ρ' ds' aw' => R (.panic ch) ρ' ds' aw')) fuel l a w := by
    intro fuel l a w hl hf hin hall s1 hs1 hst'
    have hmem : fl.filter (fun i => !l.getD i true) ∈ subs fl := filter_subs _ fl
    have hF := tailAll_get hk _ hmem
    have hb : ∀ j, j ∈ hs → (!(fl.filter (fun i => !l.getD i true)).contains j) = l.getD j true := by
      intro j hj
      cases hx : l.getD j true with
      | true =>
        simp only [Bool.not_eq_true', List.contains_eq_mem, decide_eq_false_iff_not, List.mem_filter, not_and]
        intro _; simp [hx]
      | false =>
        simp only [Bool.not_eq_false', List.contains_eq_mem, decide_eq_true_eq, List.mem_filter]
        refine ⟨?_, by simp [hx]⟩
        have := hall j hj
        cases hc : fl.contains j with
        | true => simpa using hc
        | false => rw [this hc] at hx; simp at hx
    have hmask : l = maskOf ops.size hs (fl.filter (fun i => !l.getD i true)) := by
      apply Array.ext
      · simp [hl, maskOf]
      · intro j hj1 hj2
        have hj : j < ops.size := by omega
        have e1 : l[j] = l.getD j true := by simp [Array.getD, hj1]
        have e2 : (maskOf ops.size hs (fl.filter (fun i => !l.getD i true)))[j] = (hs.contains j && !(fl.filter (fun i => !l.getD i true)).contains j) := by simp only [maskOf, Array.getElem_map, Array.getElem_range]
        rw [e1, e2]
        by_cases hjh : j ∈ hs
        · rw [hb j hjh]; simp [hjh]
        · rw [hin j hjh hj]; simp [hjh]
    have he : hEnv ops val ρ hs (fun i => l.getD i false) = putAll ops val ρ (hs.filter fun i => !(fl.filter (fun i => !l.getD i true)).contains i) := by
      rw [hEnv_all hok hnd]
      congr 1
      refine List.filter_congr fun j hj => ?_
      rw [hb j hj]
      have := h1 j hj
      simp [Array.getD, hl, this]
    rw [he] at hst'
    rw [← hmask, hf] at hF
    exact wpAny_mono' (fun e a w => QQ.mono hs1) QQ.not_outgrown _ _ _ _ (tail_sound _ _ _ _ _ hF base w0 s1 a w hst')
  -- the head
  have head : ∀ (fuel : Nat) (l : Array Bool) (a : Act) (w : World), l.size = ops.size → left l = fuel → (∀ j, j ∉ hs → j < ops.size → l.getD j true = false) →
      (∀ j, listedOf l j = true → j < ops.size → ∀ o, ops[j]? = some o → ∀ e ∈ o.after, Region.binds .any e = true → l.getD e.on false = true) →
      ∀ s1 : Inj, s.le s1 → St P.globals.size base w0 s1 (hEnv ops val ρ hs (fun i => l.getD i false)) N ds aw a w →
      wpAny P .any ops (QQ P.globals.size base w0 s N (fun ρ' ds' aw' => AGo P N k ρ' ds' aw' R) (fun ch ρ' ds' aw' => R (.panic ch) ρ' ds' aw')) fuel l a w := by
    intro fuel
    induction fuel with
    | zero =>
      intro l a w hl hf hin hcl s1 hs1 hst'
      have hall : ∀ j, j < ops.size → l.getD j true = true := by
        intro j hj
        unfold left at hf
        rw [List.countP_eq_zero] at hf
        have := hf l[j] (by simp)
        simp only [Array.getD, hl, hj, dif_pos]
        simpa using this
      exact fin 0 l a w hl hf hin (fun j hj _ => hall j (h1 j hj)) s1 hs1 hst'
    | succ fuel ih =>
      intro l a w hl hf hin hcl s1 hs1 hst'
      by_cases hall : ∀ j, j ∈ hs → fl.contains j = false → l.getD j true = true
      · exact fin (fuel + 1) l a w hl hf hin hall s1 hs1 hst'
      · -- one of the head is still to come: the first is ready, and none of the tail is
        have hnot' : ∃ j, j ∈ hs ∧ fl.contains j = false ∧ l.getD j true = false := by
          apply Classical.byContradiction
          intro h
          apply hall
          intro j hj hjf
          cases hx : l.getD j true with
          | true => rfl
          | false => exact absurd ⟨j, hj, hjf, hx⟩ h
        have hnot : ∃ j, j ∈ hs ∧ l.getD j true = false := let ⟨j, a, _, b⟩ := hnot'; ⟨j, a, b⟩
        have hfirst : ∃ j, j ∈ hs ∧ l.getD j true = false ∧ ∀ i, i < j → i ∈ hs → l.getD i true = true := by
          obtain ⟨j, hj, hx⟩ := hnot
          induction j using Nat.strongRecOn with
          | _ j ihj =>
            by_cases h : ∀ i, i < j → i ∈ hs → l.getD i true = true
            · exact ⟨j, hj, hx, h⟩
            · have : ∃ i, i < j ∧ i ∈ hs ∧ l.getD i true = false := by
                apply Classical.byContradiction
                intro h'
                apply h
                intro i hi hih
                cases hy : l.getD i true with
                | true => rfl
                | false => exact absurd ⟨i, hi, hih, hy⟩ h'
              obtain ⟨i, hi, hih, hy⟩ := this
              exact ihj i hi hih hy
        obtain ⟨j, hj, hx, hmin⟩ := hfirst
        have hready : j ∈ Region.ready .any ops l := ready_of (h1 j hj) hx (fun o ho e he hb => by
          have hlt := hpre j o ho e he hb
          have hmem := hpre2 j hj o ho e he hb
          have := hmin _ hlt hmem
          simp only [Array.getD, hl, h1 _ hmem, dif_pos] at this ⊢
          exact this)
        refine ⟨fun h => by rw [h] at hready; simp at hready, fun i hi => ?_⟩
        obtain ⟨g1, g2, g3⟩ := ready_spec hi
        have him : i ∈ hs := by
          apply Classical.byContradiction
          intro him
          have := h5 i g1
          simp only [Bool.or_eq_true, List.all_eq_true] at this
          obtain ⟨j, hj, hjf, hx⟩ := hnot'
          rcases this with h' | h'
          · exact him (by simpa using h')
          · rcases h' j hj with h' | h'
            · rw [hjf] at h'; simp at h'
            · have hc := closed_anc hcl ops.size (j := i) (i := j) g3 h'
              simp only [Array.getD, hl, h1 j hj, dif_pos] at hc hx
              rw [hx] at hc; simp at hc
        have ho : ops[i]? = some ops[i] := Array.getElem?_eq_getElem g1
        have hhead := hop i _ him ho (hEnv ops val ρ hs (fun i => l.getD i false)) (fun t ht => by
          rw [hall']
          exact hEnv_agree hok him ho (fun j' hj' hanc => closed_anc hcl ops.size g3 hanc) t ht)
        have henv : hEnv ops val ρ hs (fun q => (l.setIfInBounds i true).getD q false) = (hEnv ops val ρ hs (fun i => l.getD i false)).put ops[i].dst (val i) := by
          have := hEnv_put (val := val) (ρ := ρ) hok (L := fun q => l.getD q false) (L' := fun q => (l.setIfInBounds i true).getD q false) him (fun q hq => by
            simp only [getD_set]
            by_cases hiq : i = q
            · subst hiq; simp [hl, g1]
            · simp [hiq, show ¬ q = i from fun h => hiq h.symm])
          rw [this]
          simp [dstOf, ho]
        have hnext : ∀ (s2 : Inj) (a' : Act) (w' : World), s1.le s2 → St P.globals.size base w0 s2 ((hEnv ops val ρ hs (fun i => l.getD i false)).put ops[i].dst (val i)) N ds aw a' w' →
            wpAny P .any ops (QQ P.globals.size base w0 s N (fun ρ' ds' aw' => AGo P N k ρ' ds' aw' R) (fun ch ρ' ds' aw' => R (.panic ch) ρ' ds' aw')) fuel (l.setIfInBounds i true) a' w' := by
          intro s2 a' w' hs2 hst2
          refine ih _ a' w' (by simpa using hl) (by have := left_set l i g2; omega) ?_ ?_ s2 (Inj.le_trans hs1 hs2) (by rw [henv]; exact hst2)
          · intro q hq1 hq2
            rw [getD_set, hin q hq1 hq2]
            rw [if_neg (by rintro ⟨rfl, _⟩; exact hq1 him)]
          · intro q hq hqs o' ho' e he hb
            rw [getD_set]
            split
            · rfl
            · unfold listedOf at hq
              rw [getD_set] at hq
              by_cases hiq : i = q
              · subst hiq
                rw [ho] at ho'; obtain rfl := Option.some.inj ho'
                exact g3 _ ho e he hb
              · rw [if_neg (by rintro ⟨h, _⟩; exact hiq h)] at hq
                exact hcl q hq hqs o' ho' e he hb
        have hd : ∀ d, ops[i].dst = some d → d < N := fun d hd => dstsOk_get hN (j := i) (by simp [ho, hd])
        have hsz : ∀ (j t : Nat), (ops[j]?).bind (fun (o : Oper) => o.dst) = some t → t < a.tmps.size := fun j t hj => by rw [hst'.size]; exact dstsOk_get hN hj
        simp only [wpOp, ho]
        rcases hhead with ⟨hg, hv⟩ | ⟨hg, hv⟩ | ⟨hg, fid, args, hc, hcall⟩
        · have hw := wants_spec hst'.env hg hsz
          rw [if_pos hw]
          left
          obtain ⟨n, v', w', s', k1, k2, k3, k4, k5⟩ := hv base w0 s1 a.eval w hst'.rel (fun x hx => hst'.eval hx)
          have := hnext s' (a.put ops[i].dst v') w' k3 (hst'.put k3 k4 hd k5)
          unfold Oper.wp
          rw [k1]
          rcases k2 with rfl | ⟨rfl, rfl⟩
          · exact this
          · exact this
        · have hw := wants_spec hst'.env hg hsz
          rw [if_neg (by rw [hw]; simp)]
          have hst2 := hst'.put (Inj.le_refl s1) hst'.rel hd (VR.undef (s := s1))
          rw [← hv] at hst2
          rw [← hv]
          exact hnext s1 _ w (Inj.le_refl s1) hst2
        · have hw := wants_spec hst'.env hg hsz
          rw [if_pos hw]
          left
          obtain ⟨args', k1, k2⟩ := hc s1 a.eval w (fun x hx => hst'.eval hx)
          unfold Oper.wp
          rw [k1]
          refine (hcall base w0 s1 args' w hst'.rel k2).mono ?_
          rintro e w' ⟨s', ae, aw2, hle, hrel, her, rfl, rfl⟩
          cases her with
          | returned hvv => exact hnext s' _ w' hle (hst'.put hle hrel hd hvv)
  have h0 : left (Array.replicate ops.size false) = ops.size := by
    unfold left
    rw [Array.toList_replicate, List.countP_replicate]
    simp
  have := head ops.size (Array.replicate ops.size false) a w.drew (by simp) h0 (fun j _ hj => by simp [Array.getD, hj]) (fun j hj hjs => by simp [listedOf, Array.getD, hjs] at hj) s (Inj.le_refl s)
    (by rw [hEnv_none _ (fun j hj => by simp [Array.getD])]; exact ⟨hst.rel.drew, hst.env, hst.size, hst.dfr⟩)
  exact this
end
/-- the head's operations, one behind the other -/
def HeadAll (P : Program) (ops : Array Oper) (ρm : Env) (aw : AW) (val : Nat → Value) : List Nat → Prop
  | [] => True
  | i :: hs => (∀ o, ops[i]? = some o → HeadOp P ops o ρm aw (val i)) ∧ HeadAll P ops ρm aw val hs
theorem headAll_get {P : Program} {ops : Array Oper} {ρm : Env} {aw : AW} {val : Nat → Value} : ∀ {hs : List Nat}, HeadAll P ops ρm aw val hs → ∀ i o, i ∈ hs → ops[i]? = some o → HeadOp P ops o ρm aw (val i)
  | [], _, i, o, hi, _ => by simp at hi
  | j :: hs, h, i, o, hi, ho => by
    rcases List.mem_cons.1 hi with rfl | hi
    · exact h.1 o ho
    · exact headAll_get h.2 i o hi ho
/-- one of the head's, the operation written out -/
theorem headOp_of {P : Program} {ops : Array Oper} {ρm : Env} {aw : AW} {v : Value} {i : Nat} {o : Oper} (ho : ops[i]? = some o)
    (h : ∀ ρ' : Env, (∀ t ∈ looks ops o, ρ' t = ρm t) → (wants ops o ρ' true ∧ OpV P o ρ' aw v aw) ∨ (wants ops o ρ' false ∧ v = undef) ∨
      (wants ops o ρ' true ∧ ∃ fid args, OpC P o ρ' fid args ∧ ACalls P fid args aw fun e aw' => e = .returned v ∧ aw' = aw)) :
    ∀ o', ops[i]? = some o' → HeadOp P ops o' ρm aw v := by
  intro o' ho'
  rw [ho] at ho'
  obtain rfl := Option.some.inj ho'
  exact h
end Go.Am
