/- The interpreter: frames and calls. -/
import Derived.Test.YtfoceofohlpafaaDoorRi8
set_option linter.unusedSimpArgs false
set_option linter.unusedVariables false
set_option linter.unusedSectionVars false
namespace Go.Ri
open Go Go.Am Go.RowKit
variable [SymE]
variable [FT] [FTok]

noncomputable def drawR (P : Program) (X : Exts) (C : Caller) (ops : Array Oper) (hs : List Nat) (tl : Tl) (ρ : T Value) (ds : List Deferred) (M : Mem) : OpsR := match heads P ops M hs ρ with
  | none => .bad
  | some ρ => bif again P ops (slot ρ) M hs then tailR P X C ops tl ρ ds M else .bad
section
variable {P : Program} {X : Exts} {C : Caller} {N : Nat} {ops : Array Oper}
theorem draw_spec (hX : ExtOk P X) (hC : CS P C) (hm : P.follows .mixedOrders = true) (hN : dstsOk N ops = true) {hs : List Nat} {tl : Tl} (hok : linOk ops hs tl = true) {id : Nat} {k : List Item} {R : ADone → Env → List Deferred → AW → Prop} {ρ : T Value} {ds : List Deferred} {M : Mem}
    (h : (drawR P X C ops hs tl ρ ds M).holdsX ops (fun ρ' ds' aw' => AGo P N k ρ' ds' aw' R) (fun ch ρ' ds' aw' => R (.panic ch) ρ' ds' aw')) : AGo P N (.code (.region id ops true) :: k) (slot ρ) ds M.abs R := by
  unfold drawR at h
  split at h
  · exact h.elim
  rename_i ρ' hh
  cases hb : again P ops (slot ρ') M hs with
  | false => rw [hb] at h; exact h.elim
  | true =>
    rw [hb] at h
    exact ago_drawF rfl hm hN hok (heads_spec hh) (again_spec hb) (tail_spec hX hC h)
end

/-! frames -/
inductive SR where
  | go (todo : List Item) (ρ : T Value) (ds : List Deferred) (M : Mem)
  | fin (d : ADone) (ρ : T Value) (ds : List Deferred) (M : Mem)
  | bad
abbrev Tab := Nat → Option (List Nat × Tl)
def OpsR.sr (k : List Item) (x : OpsR) : SR := match x with
  | .norm ρ ds M => .go k ρ ds M
  | .pan ch ρ ds M => .fin (.panic ch) ρ ds M
  | .bad => .bad
def offB (rs : List Tmp) (ops : Array Oper) : Bool := rs.all fun t => ops.toList.all fun o => o.dst != some t
noncomputable def step1 (P : Program) (X : Exts) (C : Caller) (N : Nat) (tab : Tab) (rs : List Tmp) (todo : List Item) (ρ : T Value) (ds : List Deferred) (M : Mem) : SR := match todo with
  | [] => .fin .ret ρ ds M
  | .code c :: k => (match c with
    | .skip => .go k ρ ds M
    | .seq x y => .go (.code x :: .code y :: k) ρ ds M
    | .label _ => .go k ρ ds M
    | .block id c => .go (.code c :: .inBlock id :: k) ρ ds M
    | .loop c => .go (.code c :: .inLoop c :: k) ρ ds M
    | .scope c => .go (.code c :: .inScope c :: k) ρ ds M
    | .exit id => (match exitTo id k with
      | some k => .go k ρ ds M
      | none => .bad)
    | .goto l => (match gotoIn l k with
      | some k => .go k ρ ds M
      | none => .bad)
    | .cond c x y => (match okv P.globals.size (slot ρ) c with
      | some (.bool true) => .go (.code x :: k) ρ ds M
      | some (.bool false) => .go (.code y :: k) ρ ds M
      | _ => .bad)
    | .ret => .fin .ret ρ ds M
    | .region id ops draw => bif dstsOk N ops then (match draw with
        | false => (ops1 P X C ops ops.toList ρ ds M).sr k
        | true => (match tab id with
          | none => .bad
          | some (hs, tl) => bif linOk ops hs tl then (match drawR P X C ops hs tl ρ ds M with
              | .norm ρ ds M => .go k ρ ds M
              | .pan ch ρ ds M => bif offB rs ops then .fin (.panic ch) ρ ds M else .bad
              | .bad => .bad) else .bad)) else .bad
    | _ => .bad)
  | .inBlock _ :: k => .go k ρ ds M
  | .inLoop c :: k => .go (.code c :: .inLoop c :: k) ρ ds M
  | .inScope _ :: k => .go k ρ ds M
  | _ => .bad
def SR.holds (P : Program) (N : Nat) (rs : List Tmp) (R : ADone → Env → List Deferred → AW → Prop) : SR → Prop
  | .go todo ρ ds M => AGo P N todo (slot ρ) ds M.abs R
  | .fin d ρ ds M => ∀ ρ' : Env, (∀ t ∈ rs, ρ' t = slot ρ t) → R d ρ' ds M.abs
  | .bad => False
section
variable {P : Program} {X : Exts} {C : Caller} {N : Nat} {tab : Tab} {rs : List Tmp} {R : ADone → Env → List Deferred → AW → Prop}
theorem step1_spec (hX : ExtOk P X) (hC : CS P C) (hm : P.follows .mixedOrders = true) {todo : List Item} {ρ : T Value} {ds : List Deferred} {M : Mem} (h : (step1 P X C N tab rs todo ρ ds M).holds P N rs R) : AGo P N todo (slot ρ) ds M.abs R := by
  unfold step1 at h
  split at h
  · exact ago_nil (h _ fun _ _ => rfl)
  · rename_i c k
    split at h
    · exact ago_skip h
    · exact ago_seq h
    · exact ago_label h
    · exact ago_block h
    · exact ago_loop h
    · exact ago_scope h
    · split at h
      · rename_i hk; exact ago_exit hk h
      · exact h.elim
    · split at h
      · rename_i hk; exact ago_goto hk h
      · exact h.elim
    · split at h
      · rename_i hc
        obtain ⟨c1, c2⟩ := okv_spec hc
        exact ago_cond c1 c2 (fun _ => h) (fun h => by cases h)
      · rename_i hc
        obtain ⟨c1, c2⟩ := okv_spec hc
        exact ago_cond c1 c2 (fun h => by cases h) (fun _ => h)
      · exact h.elim
    · exact ago_ret (h _ fun _ _ => rfl)
    · rename_i id ops draw
      cases hN : dstsOk N ops with
      | false => rw [hN] at h; exact h.elim
      | true =>
        rw [hN] at h
        simp only [cond_true] at h
        split at h
        · refine ago_region rfl (region_spec hX hC hN ?_)
          generalize ops1 P X C ops ops.toList ρ ds M = x at h
          cases x with
          | norm ρ ds M => exact h
          | pan ch ρ ds M => exact h _ fun _ _ => rfl
          | bad => exact h
        · split at h
          · exact h.elim
          rename_i hs tl ht
          cases hb : linOk ops hs tl with
          | false => rw [hb] at h; exact h.elim
          | true =>
            rw [hb] at h
            simp only [cond_true] at h
            refine draw_spec hX hC hm hN hb ?_
            generalize drawR P X C ops hs tl ρ ds M = x at h
            cases x with
            | norm ρ ds M => exact h
            | pan ch ρ ds M =>
              cases ho : offB rs ops with
              | false => simp only [ho, cond_false] at h; exact h.elim
              | true =>
                simp only [ho, cond_true] at h
                intro ρ' hoff
                refine h ρ' fun t ht => hoff t fun j hj => ?_
                simp only [offB, List.all_eq_true] at ho
                have hd := ho t ht
                unfold dstOf at hj
                cases hoj : ops[j]? with
                | none => rw [hoj] at hj; cases hj
                | some o =>
                  rw [hoj] at hj
                  have := hd o (by rw [Array.mem_toList_iff]; exact Array.mem_of_getElem? hoj)
                  simp only [Option.bind_some] at hj
                  rw [hj] at this
                  simp at this
            | bad => exact h.elim
    · exact h.elim
  · exact ago_inBlock h
  · exact ago_inLoop h
  · exact ago_inScope h
  · exact h.elim

noncomputable def iter (f : List Item → T Value → List Deferred → Mem → SR) (n : Nat) : List Item → T Value → List Deferred → Mem → SR := Nat.rec (motive := fun _ => List Item → T Value → List Deferred → Mem → SR) f
  (fun _ ih a b c d => SR.rec (motive := fun _ => SR) (fun a b c d => ih a b c d) (fun d ρ ds M => .fin d ρ ds M) .bad (ih a b c d)) n
theorem iter_spec {f : List Item → T Value → List Deferred → Mem → SR} (hf : ∀ todo ρ ds M, (f todo ρ ds M).holds P N rs R → AGo P N todo (slot ρ) ds M.abs R) : ∀ (n : Nat) (todo : List Item) (ρ : T Value) (ds : List Deferred) (M : Mem),
    (iter f n todo ρ ds M).holds P N rs R → AGo P N todo (slot ρ) ds M.abs R
  | 0, todo, ρ, ds, M, h => hf _ _ _ _ h
  | n + 1, todo, ρ, ds, M, h => by
    have h : (SR.rec (motive := fun _ => SR) (fun a b c d => iter f n a b c d) (fun d ρ ds M => .fin d ρ ds M) .bad (iter f n todo ρ ds M) : SR).holds P N rs R := h
    refine iter_spec hf n _ _ _ _ ?_
    cases hx : iter f n todo ρ ds M with
    | go a b c d =>
      rw [hx] at h
      exact iter_spec hf n _ _ _ _ h
    | fin d ρ' ds' M' => rw [hx] at h; exact h
    | bad => rw [hx] at h; exact h
end

/-! results -/
noncomputable def res1 (P : Program) (ρ : Env) (M : Mem) : ResultVar → Option Value
  | .tmp t => some (ρ t)
  | .cell a t => (match ρ a with
    | .pointer (some ⟨b, i, none⟩) => (match P.underlying t with
      | none => none
      | some d => bif aggT d then (match (P.info? t).map (·.size) with
          | none => none
          | some n => (match M.getN b i n with
            | none => none
            | some l => some (.agg ⟨l⟩)))
        else M.get b i)
    | _ => none)
theorem res1_spec {P : Program} {ρ : Env} {M : Mem} {r : ResultVar} {v : Value} (h : res1 P ρ M r = some v) : OneR P ρ M.abs r v := by
  cases r with
  | tmp t => simp only [res1, Option.some.injEq] at h; exact oneT h
  | cell a t =>
    simp only [res1] at h
    split at h
    · rename_i b i ha
      split at h
      · cases h
      rename_i d hu
      cases hag : aggT d with
      | true =>
        rw [hag] at h
        simp only [cond_true] at h
        split at h
        · cases h
        rename_i n hn
        split at h
        · cases h
        rename_i l hl
        simp only [Option.some.injEq] at h; subst h
        exact oneN ha rfl hu hag hn (M.getN_spec hl)
      | false =>
        rw [hag] at h
        simp only [cond_false] at h
        exact one1 ha rfl hu hag (M.get_spec h)
    · cases h
def rSlot : ResultVar → Tmp
  | .tmp t => t
  | .cell a _ => a
theorem res1_congr {P : Program} {ρ ρ' : Env} {M : Mem} {r : ResultVar} (h : ρ' (rSlot r) = ρ (rSlot r)) : res1 P ρ' M r = res1 P ρ M r := by
  cases r with
  | tmp t => simp only [res1, rSlot] at h ⊢; rw [h]
  | cell a t => simp only [res1, rSlot] at h ⊢; rw [h]
noncomputable def resF (P : Program) (fn : Func) (ρ : Env) (M : Mem) : Option Value := match fn.results with
  | ⟨[]⟩ => some (.tuple ⟨[]⟩)
  | ⟨[a]⟩ => res1 P ρ M a
  | ⟨[a, b]⟩ => (match res1 P ρ M a, res1 P ρ M b with
    | some u, some v => some (.tuple ⟨[u, v]⟩)
    | _, _ => none)
  | ⟨[a, b, c]⟩ => (match res1 P ρ M a, res1 P ρ M b, res1 P ρ M c with
    | some u, some v, some w => some (.tuple ⟨[u, v, w]⟩)
    | _, _, _ => none)
  | ⟨[a, b, c, d]⟩ => (match res1 P ρ M a, res1 P ρ M b, res1 P ρ M c, res1 P ρ M d with
    | some u, some v, some w, some x => some (.tuple ⟨[u, v, w, x]⟩)
    | _, _, _, _ => none)
  | _ => none
def rSlots (fn : Func) : List Tmp := fn.results.toList.map rSlot
theorem resF_spec {P : Program} {fn : Func} {N : Nat} {ρ ρ' : Env} {M : Mem} {v : Value} (h : resF P fn ρ M = some v) (hr : ∀ t ∈ rSlots fn, ρ' t = ρ t) : ARes P fn N ρ' M.abs v := by
  unfold resF at h
  have one : ∀ r u, r ∈ fn.results.toList → res1 P ρ M r = some u → OneR P ρ' M.abs r u := fun r u hm hu => by
    refine res1_spec ?_
    rw [res1_congr (ρ := ρ) (hr _ (List.mem_map.2 ⟨r, hm, rfl⟩))]
    exact hu
  split at h
  · rename_i hf
    simp only [Option.some.injEq] at h; subst h
    exact ares_0 hf
  · rename_i a hf
    exact ares_1 hf (one a _ (by rw [hf]; simp) h)
  · rename_i a b hf
    split at h
    · rename_i u w h1 h2
      simp only [Option.some.injEq] at h; subst h
      exact ares_2 hf (one a _ (by rw [hf]; simp) h1) (one b _ (by rw [hf]; simp) h2)
    · cases h
  · rename_i a b c hf
    split at h
    · rename_i u w x h1 h2 h3
      simp only [Option.some.injEq] at h; subst h
      exact ares_3 hf (one a _ (by rw [hf]; simp) h1) (one b _ (by rw [hf]; simp) h2) (one c _ (by rw [hf]; simp) h3)
    · cases h
  · rename_i a b c d hf
    split at h
    · rename_i u w x y h1 h2 h3 h4
      simp only [Option.some.injEq] at h; subst h
      exact ares_4 hf (one a _ (by rw [hf]; simp) h1) (one b _ (by rw [hf]; simp) h2) (one c _ (by rw [hf]; simp) h3) (one d _ (by rw [hf]; simp) h4)
    · cases h
  · cases h

/-! calls -/
abbrev CallerD := FuncId → List Value → ADone → Mem → Option (AEnd × ADone × Mem)
def CDS (P : Program) (D : CallerD) : Prop := ∀ f args u M e u' M', D f args u M = some (e, u', M') → ACallsD P f args u M.abs fun e' u'' aw' => e' = e ∧ u'' = u' ∧ aw' = M'.abs
noncomputable def leave (P : Program) (fn : Func) (D : CallerD) (ρ : T Value) (ds : List Deferred) : ADone → Mem → Option (AEnd × Mem) := List.rec (motive := fun _ => ADone → Mem → Option (AEnd × Mem))
  (fun u M => match u with
    | .ret => (match resF P fn (slot ρ) M with
      | some v => some (.returned v, M)
      | none => none)
    | .panic ch => some (.panicked ch, M))
  (fun d _ ih u M => match d.target with
    | .fn (.func g) ⟨cap⟩ => bif fnOk P g then (match D g (d.args.toList ++ cap) u M with
      | some (.returned _, u', M') => ih (asettle u') M'
      | some (.panicked ch, u', M') => ih (araised u' ch) M'
      | none => none) else none
    | _ => none) ds
theorem leave_spec {P : Program} {fn : Func} {D : CallerD} {N : Nat} (hD : CDS P D) {ρ : T Value} {ρ' : Env} (hr : ∀ t ∈ rSlots fn, ρ' t = slot ρ t) {e : AEnd} {M' : Mem} : ∀ {ds : List Deferred} {u : ADone} {M : Mem}, leave P fn D ρ ds u M = some (e, M') →
    ALeaves P fn N ρ' (fun e' aw' => e' = e ∧ aw' = M'.abs) ds u M.abs
  | [], .ret, M, h => by
    have h : (match resF P fn (slot ρ) M with
      | some v => some (AEnd.returned v, M)
      | none => none) = some (e, M') := h
    split at h
    · rename_i v hv
      simp only [Option.some.injEq, Prod.mk.injEq] at h
      obtain ⟨rfl, rfl⟩ := h
      exact ⟨v, resF_spec hv hr, rfl, rfl⟩
    · cases h
  | [], .panic ch, M, h => by
    have h : some (AEnd.panicked ch, M) = some (e, M') := h
    simp only [Option.some.injEq, Prod.mk.injEq] at h
    obtain ⟨rfl, rfl⟩ := h
    exact ⟨rfl, rfl⟩
  | d :: ds, u, M, h => by
    have ih := fun {u M} => leave_spec (N := N) hD hr (e := e) (M' := M') (ds := ds) (u := u) (M := M)
    have h : (match d.target with
      | .fn (.func g) ⟨cap⟩ => bif fnOk P g then (match D g (d.args.toList ++ cap) u M with
        | some (.returned _, u', M') => leave P fn D ρ ds (asettle u') M'
        | some (.panicked ch, u', M') => leave P fn D ρ ds (araised u' ch) M'
        | none => none) else none
      | _ => none) = some (e, M') := h
    split at h
    · rename_i g cap htar
      rw [cond_some] at h
      obtain ⟨hf, h⟩ := h
      obtain ⟨fn', c, f1, f2, f3⟩ := fnOk_spec hf
      refine ⟨g, ⟨cap⟩, htar, ⟨fn', c, f1, f2, f3⟩, ?_⟩
      split at h
      · rename_i v u' M2 hd
        refine ACallsD.mono (hD _ _ _ _ _ _ _ hd) fun e' u'' aw' hh => ?_
        obtain ⟨rfl, rfl, rfl⟩ := hh
        exact ih h
      · rename_i ch u' M2 hd
        refine ACallsD.mono (hD _ _ _ _ _ _ _ hd) fun e' u'' aw' hh => ?_
        obtain ⟨rfl, rfl, rfl⟩ := hh
        exact ih h
      · cases h
    · cases h
/-- the silent steps ahead of the first region -/
noncomputable def sil (n : Nat) : List Item → List Item := Nat.rec (motive := fun _ => List Item → List Item) (fun l => l) (fun _ ih l => match l with
  | .code (.seq x y) :: k => ih (.code x :: .code y :: k)
  | .code (.block id c) :: k => ih (.code c :: .inBlock id :: k)
  | .code (.scope c) :: k => ih (.code c :: .inScope c :: k)
  | .code .skip :: k => ih k
  | l => l) n
theorem sil_spec : ∀ (n : Nat) (l : List Item), Silent l (sil n l)
  | 0, l => .refl l
  | n + 1, l => by
    have ih := sil_spec n
    show Silent l (match l with
      | .code (.seq x y) :: k => sil n (.code x :: .code y :: k)
      | .code (.block id c) :: k => sil n (.code c :: .inBlock id :: k)
      | .code (.scope c) :: k => sil n (.code c :: .inScope c :: k)
      | .code .skip :: k => sil n k
      | l => l)
    split
    · exact .seq (ih _)
    · exact .block (ih _)
    · exact .scope (ih _)
    · exact .skip (ih _)
    · exact .refl _
noncomputable def endD (P : Program) (fn : Func) (u : ADone) (x : SR) : Option (AEnd × ADone × Mem) := match x with
  | .fin .ret ρ [] M => (match resF P fn (slot ρ) M with
    | some v => some (.returned v, u, M)
    | none => none)
  | .fin (.panic ch) _ [] M => some (.panicked ch, u, M)
  | _ => none
noncomputable def callD (P : Program) (X : Exts) (C : Caller) (tab : Nat → Tab) (n : Nat) : CallerD := fun f args u M => match P.funcs[f]? with
  | none => none
  | some fn => (match fn.body with
    | none => none
    | some c => bif Nat.ble args.length fn.ntmps then (match sil 40 [.code c] with
      | .code (.region id ops false) :: k => (match ops with
        | ⟨o :: rest⟩ => (match o with
          | ⟨dst, .call ⟨.builtin .recover, ⟨[]⟩, _⟩, _, _, _, none⟩ => bif dstsOk fn.ntmps ops then
              doV (recovers u).1 fun v => doT (putS (T.ofL args 0 .leaf) dst v) fun ρ => (match ops1 P X C ops rest ρ [] M with
                | .norm ρ ds M => endD P fn (recovers u).2 (iter (step1 P X C fn.ntmps (tab f) (rSlots fn)) n k ρ ds M)
                | .pan ch ρ ds M => endD P fn (recovers u).2 (.fin (.panic ch) ρ ds M)
                | .bad => none) else none
          | _ => endD P fn u (iter (step1 P X C fn.ntmps (tab f) (rSlots fn)) n [.code c] (T.ofL args 0 .leaf) [] M))
        | ⟨[]⟩ => endD P fn u (iter (step1 P X C fn.ntmps (tab f) (rSlots fn)) n [.code c] (T.ofL args 0 .leaf) [] M))
      | _ => endD P fn u (iter (step1 P X C fn.ntmps (tab f) (rSlots fn)) n [.code c] (T.ofL args 0 .leaf) [] M)) else none)
theorem slot_init (args : List Value) : slot (T.ofL args 0 .leaf) = Env.init args := by
  funext t
  simp only [slot, T.get_ofL, Env.init]
  by_cases h : t < args.length
  · rw [if_pos ⟨Nat.zero_le _, by omega⟩]
    simp [List.getD, h]
  · rw [if_neg (by omega)]
    simp [List.getD, List.getElem?_eq_none (Nat.le_of_not_lt h), T.get_leaf]
theorem endD_spec {P : Program} {fn : Func} {N : Nat} {u : ADone} {x : SR} {e : AEnd} {u' : ADone} {M' : Mem} (h : endD P fn u x = some (e, u', M')) : u' = u ∧
    x.holds P N (rSlots fn) (fun d ρ ds aw' => ds = [] ∧ match d with
      | .ret => ∃ v, ARes P fn N ρ aw' v ∧ (AEnd.returned v = e ∧ aw' = M'.abs)
      | .panic ch => AEnd.panicked ch = e ∧ aw' = M'.abs) := by
  unfold endD at h
  split at h
  · split at h
    · rename_i v hv
      simp only [Option.some.injEq, Prod.mk.injEq] at h
      obtain ⟨rfl, rfl, rfl⟩ := h
      exact ⟨rfl, fun ρ' hr => ⟨rfl, v, resF_spec hv hr, rfl, rfl⟩⟩
    · cases h
  · simp only [Option.some.injEq, Prod.mk.injEq] at h
    obtain ⟨rfl, rfl, rfl⟩ := h
    exact ⟨rfl, fun ρ' hr => ⟨rfl, rfl, rfl⟩⟩
  · cases h
theorem callD_spec {P : Program} {X : Exts} {C : Caller} {tab : Nat → Tab} {n : Nat} (hX : ExtOk P X) (hC : CS P C) (hm : P.follows .mixedOrders = true) : CDS P (callD P X C tab n) := by
  intro f args u M e u' M' h
  unfold callD at h
  split at h
  · cases h
  rename_i fn hf
  split at h
  · cases h
  rename_i c hb
  rw [cond_some] at h
  obtain ⟨hl, h⟩ := h
  have hl := Nat.le_of_ble_eq_true hl
  have plainD : endD P fn u (iter (step1 P X C fn.ntmps (tab f) (rSlots fn)) n [.code c] (T.ofL args 0 .leaf) [] M) = some (e, u', M') → ACallsD P f args u M.abs fun e' u'' aw' => e' = e ∧ u'' = u' ∧ aw' = M'.abs := by
    intro h
    obtain ⟨rfl, hx⟩ := endD_spec (N := fn.ntmps) h
    refine acallsD_of_ago hf hb rfl hl ?_
    have := iter_spec (fun todo ρ ds M h => step1_spec hX hC hm h) n _ _ _ _ hx
    rw [slot_init] at this
    refine ago_mono ?_ this
    rintro d ρ ds aw ⟨h1, h2⟩
    refine ⟨h1, ?_⟩
    cases d with
    | ret => obtain ⟨v, k1, k2, k3⟩ := h2; exact ⟨v, k1, k2, rfl, k3⟩
    | panic ch => exact ⟨h2.1, rfl, h2.2⟩
  split at h
  · rename_i id ops k hsil
    split at h
    · rename_i o rest
      split at h
      · rename_i dst at' ty pos after
        rw [cond_some] at h
        obtain ⟨hN, h⟩ := h
        rw [doV_eq, doT_eq] at h
        have hs := sil_spec 40 [.code c]
        rw [hsil] at hs
        have hu : ∀ {x : SR}, endD P fn (recovers u).2 x = some (e, u', M') → u' = (recovers u).2 := fun h => (endD_spec (N := fn.ntmps) h).1
        refine acallsD_recover (o := ⟨dst, .call ⟨.builtin .recover, ⟨[]⟩, at'⟩, ty, pos, after, none⟩) (rest := List.range' 1 rest.length) hf hb rfl hl hs ?_ rfl rfl rfl ?_ ?_
        · rw [List.range_eq_range']
          simp only [List.size_toArray, List.length_cons]
          rfl
        · intro d hd
          exact dstsOk_get (N := fn.ntmps) hN (j := 0) (by simpa using hd)
        · refine ago_inRegion ?_
          rw [← slot_init, ← slot_put]
          refine ops1_spec hX hC hN rest 1 _ _ _ rfl ?_
          split at h
          · rename_i ρ2 ds2 M2 hx
            rw [hx]
            obtain ⟨rfl, hh⟩ := endD_spec (N := fn.ntmps) h
            have := iter_spec (fun todo ρ ds M h => step1_spec hX hC hm h) n _ _ _ _ hh
            refine ago_mono ?_ this
            rintro d ρ ds aw ⟨h1, h2⟩
            refine ⟨h1, ?_⟩
            cases d with
            | ret => obtain ⟨v, k1, k2, k3⟩ := h2; exact ⟨v, k1, k2, rfl, k3⟩
            | panic ch => exact ⟨h2.1, rfl, h2.2⟩
          · rename_i ch ρ2 ds2 M2 hx
            rw [hx]
            obtain ⟨rfl, hh⟩ := endD_spec (N := fn.ntmps) h
            obtain ⟨h1, h2⟩ := hh _ fun _ _ => rfl
            exact ⟨h1, h2.1, rfl, h2.2⟩
          · cases h
      · exact plainD h
    · exact plainD h
  · exact plainD h
where
  ago_mono {P : Program} {N : Nat} {todo : List Item} {ρ : Env} {ds : List Deferred} {aw : AW} {R R' : ADone → Env → List Deferred → AW → Prop} (hr : ∀ d ρ ds aw, R d ρ ds aw → R' d ρ ds aw) (h : AGo P N todo ρ ds aw R) : AGo P N todo ρ ds aw R' := by
    intro base w0 s a w b cs hst
    obtain ⟨m, t', a', w', h1, s', d, ρ', ds', aw', h2, h3, h4, h5⟩ := h base w0 s a w b cs hst
    exact ⟨m, t', a', w', h1, s', d, ρ', ds', aw', h2, h3, h4, hr _ _ _ _ h5⟩
noncomputable def callOne (P : Program) (X : Exts) (tab : Nat → Tab) (n : Nat) (C : Caller) : Caller := fun f args M => match P.funcs[f]? with
  | none => none
  | some fn => (match fn.body with
    | none => none
    | some c => bif Nat.ble args.length fn.ntmps then (match iter (step1 P X C fn.ntmps (tab f) (rSlots fn)) n [.code c] (T.ofL args 0 .leaf) [] M with
      | .fin d ρ ds M => leave P fn (callD P X C tab n) ρ ds d M
      | _ => none) else none)
theorem callOne_spec {P : Program} {X : Exts} {C : Caller} {tab : Nat → Tab} {n : Nat} (hX : ExtOk P X) (hC : CS P C) (hm : P.follows .mixedOrders = true) : CS P (callOne P X tab n C) := by
  intro f args M e M' h
  unfold callOne at h
  split at h
  · cases h
  rename_i fn hf
  split at h
  · cases h
  rename_i c hb
  rw [cond_some] at h
  obtain ⟨hl, h⟩ := h
  have hl := Nat.le_of_ble_eq_true hl
  split at h
  · rename_i d ρ ds M2 hx
    refine acalls_of_ago_d hf hb rfl hl ?_
    rw [← slot_init]
    refine iter_spec (rs := rSlots fn) (f := step1 P X C fn.ntmps (tab f) (rSlots fn)) (fun todo ρ ds M h => step1_spec hX hC hm h) n _ _ _ _ ?_
    rw [hx]
    intro ρ' hr
    exact leave_spec (callD_spec hX hC hm) hr h
  · cases h
/-- a call, so many deep -/
noncomputable def callN (P : Program) (X : Exts) (tab : Nat → Tab) (n : Nat) (d : Nat) : Caller := Nat.rec (motive := fun _ => Caller) (fun _ _ _ => none) (fun _ ih => callOne P X tab n ih) d
theorem callN_spec {P : Program} {X : Exts} {tab : Nat → Tab} {n : Nat} (hX : ExtOk P X) (hm : P.follows .mixedOrders = true) : ∀ d, CS P (callN P X tab n d)
  | 0 => fun _ _ _ _ _ h => by cases h
  | d + 1 => callOne_spec hX (callN_spec hX hm d) hm
end Go.Ri
