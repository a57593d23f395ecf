/- The interpreter, staged: what a program's text says is worked out once. -/
import Derived.Test.YtfoceofohlpafaaDoorRi9
set_option linter.unusedSimpArgs false
set_option linter.unusedVariables false
set_option linter.unusedSectionVars false
namespace Go.Ri
open Go Go.Am Go.RowKit
variable [SymE] [FT] [FTok]

structure Bx (α : Type) where
  f : α
/-- a value's operation -/
noncomputable def stV (P : Program) : Op → Bx (T Value → Mem → OR)
  | .move x => ⟨fun ρ M => eMove P (slot ρ) M x⟩
  | .assign x => ⟨fun ρ M => eMove P (slot ρ) M x⟩
  | .pick a b c => ⟨fun ρ M => ePick P (slot ρ) M a b c⟩
  | .alloc t => ⟨fun ρ M => eAlloc P M t⟩
  | .box t x => ⟨fun ρ M => eBox P (slot ρ) M t x⟩
  | .build t ps => ⟨fun ρ M => eBuild P (slot ρ) M t ps⟩
  | .buildSlice t n ps => ⟨fun ρ M => eBuildS P (slot ρ) M t n ps⟩
  | .load t x => ⟨fun ρ M => eLoad P (slot ρ) M t x⟩
  | .store t x y => ⟨fun ρ M => eStore P (slot ρ) M t x y⟩
  | .nilCheck x => ⟨fun ρ M => eNil P (slot ρ) M x⟩
  | .binOp op xt x y _ => ⟨fun ρ M => eBin P (slot ρ) M op xt x y⟩
  | .unOp op _ x => ⟨fun ρ M => eUn P (slot ρ) M op x⟩
  | .convert s d x => ⟨fun ρ M => eConv P (slot ρ) M s d x⟩
  | .makeInterface xt x => ⟨fun ρ M => eMkI P (slot ρ) M xt x⟩
  | .makeFunc fn a c => ⟨fun ρ M => eMkF P (slot ρ) M fn a c⟩
  | .makeSlice t x y => ⟨fun ρ M => eMake P (slot ρ) M t x y⟩
  | .slice t x l h m => ⟨fun ρ M => eSlice P (slot ρ) M t x l h m⟩
  | .fieldAddr t x n => ⟨fun ρ M => eFldA P (slot ρ) M t x n⟩
  | .field t x n => ⟨fun ρ M => eField P (slot ρ) M t x n⟩
  | .indexAddr t x y => ⟨fun ρ M => eIxA P (slot ρ) M t x y⟩
  | .index t x y => ⟨fun ρ M => eIx P (slot ρ) M t x y⟩
  | .typeAssert x _ a ok => ⟨fun ρ M => eAssert P (slot ρ) M x a ok⟩
  | .extract x i => ⟨fun ρ M => eExtract P (slot ρ) M x i⟩
  | .call ⟨.builtin .len, ⟨[x]⟩, ⟨ts⟩⟩ => ⟨fun ρ M => eLen P (slot ρ) M ⟨ts⟩ x⟩
  | .call ⟨.builtin .append, ⟨[x, y]⟩, ⟨[sT, xT]⟩⟩ => ⟨fun ρ M => match eAppend P (slot ρ) M sT xT x y with | some r => some r | none => eAppendZ P (slot ρ) M sT xT x y⟩
  | .call ⟨.builtin .copy, ⟨[x, y]⟩, ⟨[sT, xT]⟩⟩ => ⟨fun ρ M => eCopy P (slot ρ) M sT xT x y⟩
  | op => ⟨fun ρ M => eOp P (slot ρ) M op⟩
theorem stV_eq (P : Program) (op : Op) (ρ : T Value) (M : Mem) : (stV P op).f ρ M = eOp P (slot ρ) M op := by
  unfold stV
  split <;> rfl
/-- how far a value has to be worked out -/
inductive Fk where
  | no
  | full
def fkOf : Op → Fk
  | .move _ | .assign _ | .load _ _ | .nilCheck _ | .extract _ _ | .alloc _ | .store _ _ _ => .no
  | _ => .full
noncomputable def doF {R : Type} (q : Fk) (v : Value) (k : Value → R) : R := match q with
  | .no => k v
  | .full => doV v k
theorem doF_eq {R : Type} (q : Fk) (v : Value) (k : Value → R) : doF q v k = k v := by
  cases q
  · rfl
  · exact doV_eq v k
noncomputable def skD (d : Option Tmp) (ρ : T Value) (ds : List Deferred) (M : Mem) (next : T Value → List Deferred → Mem → OpsR) : OpsR := doT (putS ρ d undef) fun ρ => next ρ ds M
noncomputable def afV (q : Fk) (d : Option Tmp) (r : OR) (ρ : T Value) (ds : List Deferred) (next : T Value → List Deferred → Mem → OpsR) : OpsR := match r with
  | none => .bad
  | some (v, M) => doF q v fun v => doT (putS ρ d v) fun ρ => next ρ ds M
noncomputable def afM (q : Fk) (d : Option Tmp) (r : OR) (ρ : T Value) (ds : List Deferred) (next : T Value → List Deferred → Mem → OpsR) : OpsR := match r with
  | none => .bad
  | some (v, M) => doF q v fun v => doT (putS ρ d v) fun ρ => doM M fun M => next ρ ds M
noncomputable def afC (d : Option Tmp) (r : Option (AEnd × Mem)) (ρ : T Value) (ds : List Deferred) (next : T Value → List Deferred → Mem → OpsR) : OpsR := match r with
  | none => .bad
  | some (.returned v, M') => doV v fun v => doT (putS ρ d v) fun ρ => doM M' fun M' => next ρ ds M'
  | some (.panicked ch, M') => .pan ch ρ ds M'
noncomputable def opC (P : Program) (X : Exts) (C : Caller) (d : Option Tmp) (z : Operand) (xs : List Operand) (ρ : T Value) (ds : List Deferred) (M : Mem) (next : T Value → List Deferred → Mem → OpsR) : OpsR := match calls P (slot ρ) z xs with
  | none => (match extR P X (slot ρ) z xs with
    | none => .bad
    | some v => doV v fun v => doT (putS ρ d v) fun ρ => next ρ ds M)
  | some (g, l) => doL l fun l => afC d (C g l M) ρ ds next
noncomputable def stO (P : Program) (X : Exts) (C : Caller) (ops : Array Oper) (o : Oper) : Bx (T Value → List Deferred → Mem → (T Value → List Deferred → Mem → OpsR) → OpsR) := match o.guard with
  | none => (match o.op with
    | .call ⟨.value z, ⟨xs⟩, _⟩ => (match o.dst with | d => ⟨fun ρ ds M next => opC P X C d z xs ρ ds M next⟩)
    | .defer ⟨.value z, ⟨xs⟩, _⟩ => ⟨fun ρ ds M next => op1 P X C ops o ρ ds M next⟩
    | .panic x => ⟨fun ρ ds M next => op1 P X C ops o ρ ds M next⟩
    | op => (match quiet P op with
      | true => ⟨fun ρ ds M next => afV (fkOf op) o.dst ((stV P op).f ρ M) ρ ds next⟩
      | false => ⟨fun ρ ds M next => afM (fkOf op) o.dst ((stV P op).f ρ M) ρ ds next⟩))
  | some g => ⟨fun ρ ds M next => op1 P X C ops o ρ ds M next⟩
theorem stO_eq (P : Program) (X : Exts) (C : Caller) (ops : Array Oper) (o : Oper) (ρ : T Value) (ds : List Deferred) (M : Mem) (next : T Value → List Deferred → Mem → OpsR) : (stO P X C ops o).f ρ ds M next = op1 P X C ops o ρ ds M next := by
  unfold stO
  split
  · rename_i hg
    unfold op1
    rw [hg]
    simp only [gd]
    generalize o.op = op
    split
    · rename_i z xs ts
      simp only [opC]
      split
      · rename_i hc; simp only [hc]; cases extR P X (slot ρ) z xs <;> rfl
      · rename_i g l hc
        simp only [hc, doL_eq, afC]
        cases C g l M with
        | none => rfl
        | some p =>
          obtain ⟨e, M'⟩ := p
          cases e <;> rfl
    · rfl
    · rfl
    · rename_i h1 h2 h3
      split
      · simp only [afV, doF_eq, doT_eq, stV_eq]
        generalize eOp P (slot ρ) M op = r
        cases r with
        | none => rfl
        | some p => simp only [doV_eq, doT_eq, doM_eq]
      · simp only [afM, doF_eq, doT_eq, doM_eq, stV_eq]
        generalize eOp P (slot ρ) M op = r
        cases r with
        | none => rfl
        | some p => simp only [doV_eq, doT_eq, doM_eq]
  · rfl
noncomputable def opsS (P : Program) (X : Exts) (C : Caller) (ops : Array Oper) (l : List Oper) : T Value → List Deferred → Mem → OpsR := List.rec (motive := fun _ => T Value → List Deferred → Mem → OpsR) (fun ρ ds M => .norm ρ ds M)
  (fun o _ ih ρ ds M => match stO P X C ops o with
    | ⟨f⟩ => f ρ ds M ih) l
theorem opsS_eq (P : Program) (X : Exts) (C : Caller) (ops : Array Oper) : ∀ (l : List Oper), opsS P X C ops l = ops1 P X C ops l
  | [] => rfl
  | o :: l => by
    funext ρ ds M
    show (match stO P X C ops o with | ⟨f⟩ => f ρ ds M (opsS P X C ops l)) = op1 P X C ops o ρ ds M (ops1 P X C ops l)
    rw [← opsS_eq P X C ops l, ← stO_eq]

/-! regions of open order -/
/-- a read, staged: where it goes -/
noncomputable def stR (P : Program) (ops : Array Oper) (i : Nat) : Option (Bx (T Value → Mem → Option Value) × Option Tmp) := match ops[i]? with
  | none => none
  | some o => (match o.guard with
    | none => bif quiet P o.op then (match stV P o.op with
      | ⟨f⟩ => some (⟨fun ρ M => match f ρ M with
        | none => none
        | some (v, _) => some v⟩, o.dst)) else some (⟨fun _ _ => none⟩, o.dst)
    | some _ => some (⟨fun ρ M => hval P ops o (slot ρ) M⟩, o.dst))
theorem stR_eq (P : Program) (ops : Array Oper) (i : Nat) : match ops[i]? with
    | none => stR P ops i = none
    | some o => ∃ f, stR P ops i = some (⟨f⟩, o.dst) ∧ ∀ ρ M, f ρ M = hval P ops o (slot ρ) M := by
  unfold stR
  cases ops[i]? with
  | none => rfl
  | some o =>
    simp only
    cases hg : o.guard with
    | none =>
      simp only
      cases hq : quiet P o.op with
      | true =>
        simp only [cond_true]
        refine ⟨_, rfl, fun ρ M => ?_⟩
        simp only [hval, hg, gd, hq, cond_true]
        have := stV_eq P o.op ρ M
        rw [this]
        cases eOp P (slot ρ) M o.op <;> rfl
      | false =>
        simp only [cond_false]
        refine ⟨_, rfl, fun ρ M => ?_⟩
        simp only [hval, hg, gd, hq, cond_false]
    | some g => exact ⟨_, rfl, fun ρ M => rfl⟩
noncomputable def headsS (P : Program) (ops : Array Oper) (M : Mem) (hs : List Nat) : T Value → Option (T Value) := List.rec (motive := fun _ => T Value → Option (T Value)) (fun ρ => some ρ)
  (fun i _ ih ρ => match stR P ops i with
    | none => none
    | some (⟨f⟩, d) => (match f ρ M with
      | none => none
      | some v => doV v fun v => doT (putS ρ d v) fun ρ => ih ρ)) hs
theorem headsS_eq (P : Program) (ops : Array Oper) (M : Mem) : ∀ (hs : List Nat) (ρ : T Value), headsS P ops M hs ρ = heads P ops M hs ρ
  | [], ρ => rfl
  | i :: hs, ρ => by
    show (match stR P ops i with
      | none => none
      | some (⟨f⟩, d) => (match f ρ M with
        | none => none
        | some v => doV v fun v => doT (putS ρ d v) fun ρ => headsS P ops M hs ρ)) = (match ops[i]? with
      | none => none
      | some o => (match hval P ops o (slot ρ) M with
        | none => none
        | some v => doV v fun v => doT (putS ρ o.dst v) fun ρ => heads P ops M hs ρ))
    have h := stR_eq P ops i
    cases ho : ops[i]? with
    | none => rw [ho] at h; rw [show stR P ops i = none from h]
    | some o =>
      rw [ho] at h
      obtain ⟨f, h1, h2⟩ := h
      rw [h1]
      simp only [h2]
      cases hval P ops o (slot ρ) M with
      | none => rfl
      | some v => simp only [doV_eq, doT_eq]; exact headsS_eq P ops M hs _
noncomputable def againS (P : Program) (ops : Array Oper) (ρ : T Value) (M : Mem) (q : List Nat) : Bool := List.rec (motive := fun _ => Bool) true
  (fun i _ ih => match stR P ops i with
    | none => false
    | some (⟨f⟩, d) => (match d with
      | none => false
      | some d => (match f ρ M with
        | none => false
        | some v => bif vEq 8 v (slot ρ d) then ih else false))) q
theorem againS_eq (P : Program) (ops : Array Oper) (ρ : T Value) (M : Mem) : ∀ (q : List Nat), againS P ops ρ M q = again P ops (slot ρ) M q
  | [] => rfl
  | i :: q => by
    show (match stR P ops i with
      | none => false
      | some (⟨f⟩, d) => (match d with
        | none => false
        | some d => (match f ρ M with
          | none => false
          | some v => bif vEq 8 v (slot ρ d) then againS P ops ρ M q else false))) = (match ops[i]? with
      | none => false
      | some o => (match o.dst with
        | none => false
        | some d => (match hval P ops o (slot ρ) M with
          | none => false
          | some v => vEq 8 v (slot ρ d) && again P ops (slot ρ) M q)))
    have h := stR_eq P ops i
    cases ho : ops[i]? with
    | none => rw [ho] at h; rw [show stR P ops i = none from h]
    | some o =>
      rw [ho] at h
      obtain ⟨f, h1, h2⟩ := h
      rw [h1]
      simp only [h2]
      cases o.dst with
      | none => rfl
      | some d =>
        simp only
        cases hval P ops o (slot ρ) M with
        | none => rfl
        | some v => simp only; rw [againS_eq P ops ρ M q]; cases vEq 8 v (slot ρ d) <;> rfl
noncomputable def stT (P : Program) (X : Exts) (C : Caller) (ops : Array Oper) (i : Nat) : Option (Bx (T Value → List Deferred → Mem → (T Value → List Deferred → Mem → OpsR) → OpsR)) := match ops[i]? with
  | none => none
  | some o => (match o.op with
    | .defer _ => none
    | _ => some (stO P X C ops o))
noncomputable def afH (P : Program) (ops : Array Oper) (nh q : List Nat) (ih : T Value → List Deferred → Mem → OpsR) (ρ : T Value) (ds : List Deferred) (M : Mem) : OpsR := match headsS P ops M nh ρ with
  | none => .bad
  | some ρ => bif againS P ops ρ M q then ih ρ ds M else .bad
noncomputable def tailS (P : Program) (X : Exts) (C : Caller) (ops : Array Oper) (tl : Tl) : T Value → List Deferred → Mem → OpsR := List.rec (motive := fun _ => T Value → List Deferred → Mem → OpsR) (fun ρ ds M => .norm ρ ds M)
  (fun tq _ ih ρ ds M => match stT P X C ops tq.1 with
    | none => .bad
    | some ⟨f⟩ => f ρ ds M (afH P ops tq.2.2 (tq.2.1 ++ tq.2.2) ih)) tl
theorem tailS_eq (P : Program) (X : Exts) (C : Caller) (ops : Array Oper) : ∀ (tl : Tl), tailS P X C ops tl = tailR P X C ops tl
  | [] => rfl
  | (t, q, nh) :: tl => by
    funext ρ ds M
    show (match stT P X C ops t with
      | none => OpsR.bad
      | some ⟨f⟩ => f ρ ds M (afH P ops nh (q ++ nh) (tailS P X C ops tl))) = (match ops[t]? with
      | none => .bad
      | some o => (match o.op with
        | .defer _ => .bad
        | _ => op1 P X C ops o ρ ds M fun ρ ds M => (match heads P ops M nh ρ with
          | none => .bad
          | some ρ => bif again P ops (slot ρ) M (q ++ nh) then tailR P X C ops tl ρ ds M else .bad)))
    rw [tailS_eq P X C ops tl]
    have e : afH P ops nh (q ++ nh) (tailR P X C ops tl) = fun ρ ds M => (match heads P ops M nh ρ with
          | none => .bad
          | some ρ => bif again P ops (slot ρ) M (q ++ nh) then tailR P X C ops tl ρ ds M else .bad) := by
      funext ρ ds M
      unfold afH
      rw [headsS_eq]
      cases heads P ops M nh ρ with
      | none => rfl
      | some ρ => simp only [againS_eq]
    rw [e]
    unfold stT
    cases ops[t]? with
    | none => rfl
    | some o =>
      simp only
      generalize ho : o.op = op
      cases op <;> first | rfl | exact stO_eq ..
noncomputable def drawS (P : Program) (X : Exts) (C : Caller) (ops : Array Oper) (hs : List Nat) (tl : Tl) (ρ : T Value) (ds : List Deferred) (M : Mem) : OpsR := afH P ops hs hs (tailS P X C ops tl) ρ ds M
theorem drawS_eq (P : Program) (X : Exts) (C : Caller) (ops : Array Oper) (hs : List Nat) (tl : Tl) (ρ : T Value) (ds : List Deferred) (M : Mem) : drawS P X C ops hs tl ρ ds M = drawR P X C ops hs tl ρ ds M := by
  unfold drawS drawR afH
  rw [headsS_eq]
  cases heads P ops M hs ρ with
  | none => rfl
  | some ρ => simp only [againS_eq, tailS_eq]

/-! control -/
inductive Pt where
  | reg (f : Bx (T Value → List Deferred → Mem → OpsR)) (k : List Item)
  | dr (f : Bx (T Value → List Deferred → Mem → OpsR)) (ops : Array Oper) (k : List Item)
  | cnd (x : Operand) (a b : List Item)
  | fin
  | bad
/-- the silent steps -/
noncomputable def silT (n : Nat) : List Item → List Item := Nat.rec (motive := fun _ => List Item → List Item) (fun l => l) (fun _ ih l => match l with
  | .code c :: k => (match c with
    | .skip => ih k
    | .seq x y => ih (.code x :: .code y :: k)
    | .label _ => ih k
    | .block id c => ih (.code c :: .inBlock id :: k)
    | .loop c => ih (.code c :: .inLoop c :: k)
    | .scope c => ih (.code c :: .inScope c :: k)
    | .exit id => (match exitTo id k with
      | some k => ih k
      | none => l)
    | .goto b => (match gotoIn b k with
      | some k => ih k
      | none => l)
    | _ => l)
  | .inBlock _ :: k => ih k
  | .inLoop c :: k => ih (.code c :: .inLoop c :: k)
  | .inScope _ :: k => ih k
  | l => l) n
theorem silT_spec {P : Program} {N : Nat} {R : ADone → Env → List Deferred → AW → Prop} {ρ : Env} {ds : List Deferred} {aw : AW} : ∀ (n : Nat) (l : List Item), AGo P N (silT n l) ρ ds aw R → AGo P N l ρ ds aw R
  | 0, l, h => h
  | n + 1, l, h0 => by
    have ih := fun l => silT_spec (P := P) (N := N) (R := R) (ρ := ρ) (ds := ds) (aw := aw) n l
    have h : AGo P N (match (generalizing := false) l with
      | .code c :: k => (match (generalizing := false) c with
        | .skip => silT n k
        | .seq x y => silT n (.code x :: .code y :: k)
        | .label _ => silT n k
        | .block id c => silT n (.code c :: .inBlock id :: k)
        | .loop c => silT n (.code c :: .inLoop c :: k)
        | .scope c => silT n (.code c :: .inScope c :: k)
        | .exit id => (match exitTo id k with
          | some k => silT n k
          | none => l)
        | .goto b => (match gotoIn b k with
          | some k => silT n k
          | none => l)
        | _ => l)
      | .inBlock _ :: k => silT n k
      | .inLoop c :: k => silT n (.code c :: .inLoop c :: k)
      | .inScope _ :: k => silT n k
      | l => l) ρ ds aw R := h0
    clear h0
    split at h
    · split at h
      · exact ago_skip (ih _ h)
      · exact ago_seq (ih _ h)
      · exact ago_label (ih _ h)
      · exact ago_block (ih _ h)
      · exact ago_loop (ih _ h)
      · exact ago_scope (ih _ h)
      · split at h
        · rename_i hk; exact ago_exit hk (ih _ h)
        · exact h
      · split at h
        · rename_i hk; exact ago_goto hk (ih _ h)
        · exact h
      · exact h
    · exact ago_inBlock (ih _ h)
    · exact ago_inLoop (ih _ h)
    · exact ago_inScope (ih _ h)
    · exact h
/-! code that is looked at once -/
noncomputable def okC (tab : Tab) (N : Nat) : Code → Bool
  | .region id ops draw => dstsOk N ops && (match draw with
    | false => true
    | true => (match tab id with
      | none => true
      | some (hs, tl) => linOk ops hs tl))
  | .seq x y => okC tab N x && okC tab N y
  | .cond _ x y => okC tab N x && okC tab N y
  | .block _ c => okC tab N c
  | .loop c => okC tab N c
  | .scope c => okC tab N c
  | _ => true
noncomputable def okI (tab : Tab) (N : Nat) : Item → Bool
  | .code c => okC tab N c
  | .inLoop c => okC tab N c
  | .inScope c => okC tab N c
  | _ => true
def okL (tab : Tab) (N : Nat) (l : List Item) : Prop := ∀ x ∈ l, okI tab N x = true
section
variable {tab : Tab} {N : Nat}
theorem okL.tail {x : Item} {l : List Item} (h : okL tab N (x :: l)) : okL tab N l := fun y hy => h y (List.mem_cons_of_mem _ hy)
theorem okL.head {x : Item} {l : List Item} (h : okL tab N (x :: l)) : okI tab N x = true := h x (List.mem_cons_self ..)
theorem okL.cons {x : Item} {l : List Item} (h1 : okI tab N x = true) (h : okL tab N l) : okL tab N (x :: l) := fun y hy => by
  rcases List.mem_cons.1 hy with rfl | hy
  · exact h1
  · exact h y hy
theorem findLabel_ok {l : Nat} : ∀ {c r : Code}, okC tab N c = true → findLabel c l = some r → okC tab N r = true
  | .seq a b, r, h, hf => by
    simp only [okC, Bool.and_eq_true] at h
    simp only [findLabel] at hf
    split at hf
    · rename_i rest hr
      simp only [Option.some.injEq] at hf; subst hf
      simp only [okC, Bool.and_eq_true]
      exact ⟨findLabel_ok h.1 hr, h.2⟩
    · exact findLabel_ok h.2 hf
  | .label l', r, h, hf => by
    simp only [findLabel] at hf
    split at hf
    · simp only [Option.some.injEq] at hf; subst hf; rfl
    · cases hf
  | .skip, r, h, hf => by simp [findLabel] at hf
  | .region .., r, h, hf => by simp [findLabel] at hf
  | .cond .., r, h, hf => by simp [findLabel] at hf
  | .block .., r, h, hf => by simp [findLabel] at hf
  | .loop .., r, h, hf => by simp [findLabel] at hf
  | .rangeFunc .., r, h, hf => by simp [findLabel] at hf
  | .exit .., r, h, hf => by simp [findLabel] at hf
  | .scope .., r, h, hf => by simp [findLabel] at hf
  | .goto .., r, h, hf => by simp [findLabel] at hf
  | .ret, r, h, hf => by simp [findLabel] at hf
  | .refuse .., r, h, hf => by simp [findLabel] at hf
theorem exitTo_ok {id : Nat} : ∀ {l k : List Item}, okL tab N l → exitTo id l = some k → okL tab N k
  | [], k, h, he => by simp [exitTo] at he
  | x :: l, k, h, he => by
    unfold exitTo at he
    split at he
    · rename_i id' k' hx
      injection hx with hx1 hx2
      subst hx2
      split at he
      · simp only [Option.some.injEq] at he; subst he; exact h.tail
      · exact exitTo_ok h.tail he
    · rename_i k' hx y hy
      injection hy with hy1 hy2
      subst hy2
      exact exitTo_ok h.tail he
    · rename_i hx; cases hx
theorem gotoIn_ok {b : Nat} : ∀ {l k : List Item}, okL tab N l → gotoIn b l = some k → okL tab N k
  | [], k, h, he => by simp [gotoIn] at he
  | x :: l, k, h, he => by
    unfold gotoIn at he
    split at he
    · rename_i body k' hx
      injection hx with hx1 hx2
      subst hx1; subst hx2
      split at he
      · rename_i rest hr
        simp only [Option.some.injEq] at he; subst he
        exact .cons (findLabel_ok (show okC tab N body = true from h.head) hr) h
      · exact gotoIn_ok h.tail he
    · rename_i k' hx y hy
      injection hy with hy1 hy2
      subst hy2
      exact gotoIn_ok h.tail he
    · rename_i hx; cases hx
theorem silT_ok : ∀ (n : Nat) {l : List Item}, okL tab N l → okL tab N (silT n l)
  | 0, l, h => h
  | n + 1, l, h => by
    have ih := fun {l} (h : okL tab N l) => silT_ok n h
    show okL tab N (match (generalizing := false) l with
      | .code c :: k => (match (generalizing := false) c with
        | .skip => silT n k
        | .seq x y => silT n (.code x :: .code y :: k)
        | .label _ => silT n k
        | .block id c => silT n (.code c :: .inBlock id :: k)
        | .loop c => silT n (.code c :: .inLoop c :: k)
        | .scope c => silT n (.code c :: .inScope c :: k)
        | .exit id => (match exitTo id k with
          | some k => silT n k
          | none => l)
        | .goto b => (match gotoIn b k with
          | some k => silT n k
          | none => l)
        | _ => l)
      | .inBlock _ :: k => silT n k
      | .inLoop c :: k => silT n (.code c :: .inLoop c :: k)
      | .inScope _ :: k => silT n k
      | l => l)
    split
    · split
      · exact ih h.tail
      · have := h.head; simp only [okI, okC, Bool.and_eq_true] at this; exact ih (.cons this.1 (.cons this.2 h.tail))
      · exact ih h.tail
      · have := h.head; exact ih (.cons this (.cons rfl h.tail))
      · have := h.head; exact ih (.cons this (.cons this h.tail))
      · have := h.head; exact ih (.cons this (.cons this h.tail))
      · split
        · rename_i hk; exact ih (exitTo_ok h.tail hk)
        · exact h
      · split
        · rename_i hk; exact ih (gotoIn_ok h.tail hk)
        · exact h
      · exact h
    · exact ih h.tail
    · have := h.head; exact ih (.cons this h)
    · exact ih h.tail
    · exact h
end
noncomputable def pt (P : Program) (X : Exts) (C : Caller) (tab : Tab) (l : List Item) : Pt := match silT 60 l with
  | [] => .fin
  | .code c :: k => (match c with
    | .cond x a b => .cnd x (.code a :: k) (.code b :: k)
    | .ret => .fin
    | .region id ops draw => (match draw with
        | false => .reg ⟨opsS P X C ops ops.toList⟩ k
        | true => (match tab id with
          | none => .bad
          | some (hs, tl) => .dr ⟨drawS P X C ops hs tl⟩ ops k))
    | _ => .bad)
  | _ => .bad
noncomputable def drK (rs : List Tmp) (ops : Array Oper) (k : List Item) (x : OpsR) : SR := match x with
  | .norm ρ ds M => .go k ρ ds M
  | .pan ch ρ ds M => bif offB rs ops then .fin (.panic ch) ρ ds M else .bad
  | .bad => .bad
noncomputable def cnK (a b : List Item) (x : Option Value) (ρ : T Value) (ds : List Deferred) (M : Mem) : SR := match x with
  | some (.bool true) => .go a ρ ds M
  | some (.bool false) => .go b ρ ds M
  | _ => .bad
noncomputable def step2 (P : Program) (X : Exts) (C : Caller) (tab : Tab) (rs : List Tmp) (todo : List Item) (ρ : T Value) (ds : List Deferred) (M : Mem) : SR := match pt P X C tab todo with
  | .reg ⟨f⟩ k => (f ρ ds M).sr k
  | .dr ⟨f⟩ ops k => drK rs ops k (f ρ ds M)
  | .cnd x a b => cnK a b (okv P.globals.size (slot ρ) x) ρ ds M
  | .fin => .fin .ret ρ ds M
  | .bad => .bad
def SR.okS (tab : Tab) (N : Nat) : SR → Prop
  | .go todo _ _ _ => okL tab N todo
  | _ => True
theorem sr_ok {tab : Tab} {N : Nat} {k : List Item} (h : okL tab N k) (x : OpsR) : (x.sr k).okS tab N := by cases x <;> first | exact h | exact True.intro
theorem drK_ok {tab : Tab} {N : Nat} {rs : List Tmp} {ops : Array Oper} {k : List Item} (h : okL tab N k) (x : OpsR) : (drK rs ops k x).okS tab N := by
  cases x with
  | norm ρ ds M => exact h
  | pan ch ρ ds M => unfold drK; cases offB rs ops <;> exact True.intro
  | bad => exact True.intro
theorem cnK_ok {tab : Tab} {N : Nat} {a b : List Item} (ha : okL tab N a) (hb : okL tab N b) (x : Option Value) (ρ : T Value) (ds : List Deferred) (M : Mem) : (cnK a b x ρ ds M).okS tab N := by
  unfold cnK
  split
  · exact ha
  · exact hb
  · exact True.intro
theorem step2_spec {P : Program} {X : Exts} {C : Caller} {N : Nat} {tab : Tab} {rs : List Tmp} {R : ADone → Env → List Deferred → AW → Prop} (hX : ExtOk P X) (hC : CS P C) (hm : P.follows .mixedOrders = true) {todo : List Item} (hok : okL tab N todo) {ρ : T Value} {ds : List Deferred} {M : Mem} :
    ((step2 P X C tab rs todo ρ ds M).holds P N rs R → AGo P N todo (slot ρ) ds M.abs R) ∧ (step2 P X C tab rs todo ρ ds M).okS tab N := by
  have hs : AGo P N (silT 60 todo) (slot ρ) ds M.abs R → AGo P N todo (slot ρ) ds M.abs R := silT_spec 60 todo
  have hok := silT_ok 60 hok
  unfold step2 pt
  generalize silT 60 todo = l at hs hok
  match l, hs, hok with
  | [], hs, hok => exact ⟨fun h => hs (ago_nil (h _ fun _ _ => rfl)), True.intro⟩
  | .code c :: k, hs, hok =>
    match c, hs, hok with
    | .cond x a b, hs, hok =>
      refine ⟨fun h => hs ?_, ?_⟩
      · have h : (cnK (.code a :: k) (.code b :: k) (okv P.globals.size (slot ρ) x) ρ ds M).holds P N rs R := h
        unfold cnK at h
        split at h
        · rename_i hc
          obtain ⟨c1, c2⟩ := okv_spec hc
          exact ago_cond c1 c2 (fun _ => h) (fun h => by cases h)
        · rename_i hc
          obtain ⟨c1, c2⟩ := okv_spec hc
          exact ago_cond c1 c2 (fun h => by cases h) (fun _ => h)
        · exact h.elim
      · have := hok.head
        simp only [okI, okC, Bool.and_eq_true] at this
        exact cnK_ok (okL.cons (x := .code a) this.1 hok.tail) (okL.cons (x := .code b) this.2 hok.tail) _ _ _ _
    | .ret, hs, hok => exact ⟨fun h => hs (ago_ret (h _ fun _ _ => rfl)), True.intro⟩
    | .region id ops draw, hs, hok =>
      have hreg := hok.head
      simp only [okI, okC, Bool.and_eq_true] at hreg
      obtain ⟨hN, hlin⟩ := hreg
      cases draw with
      | false =>
        refine ⟨fun h => hs (step1_spec (tab := tab) (rs := rs) hX hC hm ?_), sr_ok hok.tail _⟩
        show SR.holds P N rs R (bif dstsOk N ops then (ops1 P X C ops ops.toList ρ ds M).sr k else .bad)
        simp only [hN, cond_true]
        simp only [opsS_eq] at h
        exact h
      | true =>
        simp only at hlin ⊢
        cases ht : tab id with
        | none => exact ⟨fun h => h.elim, True.intro⟩
        | some p =>
          obtain ⟨hs', tl⟩ := p
          rw [ht] at hlin
          simp only at hlin ⊢
          refine ⟨fun h => hs (step1_spec (tab := tab) (rs := rs) hX hC hm ?_), drK_ok hok.tail _⟩
          show SR.holds P N rs R (bif dstsOk N ops then (match (generalizing := false) tab id with
              | none => .bad
              | some (hs, tl) => bif linOk ops hs tl then (match drawR P X C ops hs tl ρ ds M with
                  | .norm ρ ds M => .go k ρ ds M
                  | .pan ch ρ ds M => bif offB rs ops then .fin (.panic ch) ρ ds M else .bad
                  | .bad => .bad) else .bad) else .bad)
          simp only [hN, cond_true, ht, hlin]
          simp only [drawS_eq] at h
          exact h
    | .skip, hs, hok => exact ⟨fun h => h.elim, True.intro⟩
    | .seq .., hs, hok => exact ⟨fun h => h.elim, True.intro⟩
    | .label .., hs, hok => exact ⟨fun h => h.elim, True.intro⟩
    | .block .., hs, hok => exact ⟨fun h => h.elim, True.intro⟩
    | .loop .., hs, hok => exact ⟨fun h => h.elim, True.intro⟩
    | .scope .., hs, hok => exact ⟨fun h => h.elim, True.intro⟩
    | .exit .., hs, hok => exact ⟨fun h => h.elim, True.intro⟩
    | .goto .., hs, hok => exact ⟨fun h => h.elim, True.intro⟩
    | .rangeFunc .., hs, hok => exact ⟨fun h => h.elim, True.intro⟩
    | .refuse .., hs, hok => exact ⟨fun h => h.elim, True.intro⟩
  | .inBlock .. :: k, hs, hok => exact ⟨fun h => h.elim, True.intro⟩
  | .inLoop .. :: k, hs, hok => exact ⟨fun h => h.elim, True.intro⟩
  | .inScope .. :: k, hs, hok => exact ⟨fun h => h.elim, True.intro⟩
  | .inRegion .. :: k, hs, hok => exact ⟨fun h => h.elim, True.intro⟩
  | .inRangeFunc .. :: k, hs, hok => exact ⟨fun h => h.elim, True.intro⟩
  | .endRangeFunc .. :: k, hs, hok => exact ⟨fun h => h.elim, True.intro⟩
  | .beginRound :: k, hs, hok => exact ⟨fun h => h.elim, True.intro⟩
  | .call .. :: k, hs, hok => exact ⟨fun h => h.elim, True.intro⟩
  | .extern .. :: k, hs, hok => exact ⟨fun h => h.elim, True.intro⟩
theorem iterS_spec {P : Program} {N : Nat} {tab : Tab} {rs : List Tmp} {R : ADone → Env → List Deferred → AW → Prop} {f : List Item → T Value → List Deferred → Mem → SR} (hf : ∀ todo ρ ds M, okL tab N todo → ((f todo ρ ds M).holds P N rs R → AGo P N todo (slot ρ) ds M.abs R) ∧ (f todo ρ ds M).okS tab N) :
    ∀ (n : Nat) (todo : List Item) (ρ : T Value) (ds : List Deferred) (M : Mem), okL tab N todo → ((iter f n todo ρ ds M).holds P N rs R → AGo P N todo (slot ρ) ds M.abs R) ∧ (iter f n todo ρ ds M).okS tab N
  | 0, todo, ρ, ds, M, hok => hf _ _ _ _ hok
  | n + 1, todo, ρ, ds, M, hok => by
    obtain ⟨h1, h2⟩ := iterS_spec hf n todo ρ ds M hok
    show ((SR.rec (motive := fun _ => SR) (fun a b c d => iter f n a b c d) (fun d ρ ds M => .fin d ρ ds M) .bad (iter f n todo ρ ds M) : SR).holds P N rs R → _) ∧ (SR.rec (motive := fun _ => SR) (fun a b c d => iter f n a b c d) (fun d ρ ds M => .fin d ρ ds M) .bad (iter f n todo ρ ds M) : SR).okS tab N
    cases hx : iter f n todo ρ ds M with
    | go a b c d =>
      rw [hx] at h1 h2
      obtain ⟨k1, k2⟩ := iterS_spec hf n a b c d h2
      exact ⟨fun h => h1 (k1 h), k2⟩
    | fin d ρ' ds' M' => rw [hx] at h1 h2; exact ⟨h1, h2⟩
    | bad => rw [hx] at h1 h2; exact ⟨h1, h2⟩
/-- all functions' code, looked at -/
noncomputable def okP (tab : Nat → Tab) (fs : List Func) : Nat → Bool := List.rec (motive := fun _ => Nat → Bool) (fun _ => true)
  (fun fn _ ih i => (match fn.body with
    | none => true
    | some c => okC (tab i) fn.ntmps c) && ih (Nat.succ i)) fs
theorem okP_spec {tab : Nat → Tab} : ∀ {fs : List Func} {i : Nat}, okP tab fs i = true → ∀ {j : Nat} {fn : Func} {c : Code}, fs[j]? = some fn → fn.body = some c → okC (tab (i + j)) fn.ntmps c = true
  | [], i, h, j, fn, c, hj, hb => by simp at hj
  | g :: fs, i, h, j, fn, c, hj, hb => by
    have h : ((match g.body with
      | none => true
      | some c => okC (tab i) g.ntmps c) && okP tab fs (i + 1)) = true := h
    simp only [Bool.and_eq_true] at h
    cases j with
    | zero =>
      simp only [List.getElem?_cons_zero, Option.some.injEq] at hj
      subst hj
      have h1 := h.1
      rw [hb] at h1
      exact h1
    | succ j =>
      rw [show i + (j + 1) = i + 1 + j by omega]
      exact okP_spec h.2 (by simpa using hj) hb
end Go.Ri
