/- The interpreter: what an operation gives hangs on what it looks at. -/
import Derived.Test.YtfoceofohlpafaaDoorRi6
import Derived.Test.YtfoceofohlpafaaDoorAm18
set_option linter.unusedSimpArgs false
set_option linter.unusedVariables false
set_option linter.unusedSectionVars false
namespace Go.Ri
open Go Go.Am Go.RowKit
variable [SymE]
variable [FT] [FTok]

section
variable {P : Program} {ρ ρ' : Env} {M M' : Mem} {o : Oper} {v : Value}
theorem okv_congr {G : Nat} {x : Operand} (h : ∀ t, x = .tmp t → ρ' t = ρ t) : okv G ρ' x = okv G ρ x := by
  cases x with
  | tmp t => simp only [okv, h t rfl]
  | const _ => rfl
  | global _ => rfl
  | func _ => rfl
def AgreeX (G : Nat) (ρ ρ' : Env) (l : List Operand) : Prop := ∀ x ∈ l, okv G ρ' x = okv G ρ x
theorem okvs_congr {G : Nat} : ∀ {l : List Operand}, AgreeX G ρ ρ' l → okvs G ρ' l = okvs G ρ l
  | [], _ => rfl
  | x :: l, h => by
    show (match okv G ρ' x with
      | none => none
      | some v => match okvs G ρ' l with
        | none => none
        | some l => some (v :: l)) = (match okv G ρ x with
      | none => none
      | some v => match okvs G ρ l with
        | none => none
        | some l => some (v :: l))
    rw [h x (by simp), okvs_congr fun y hy => h y (by simp [hy])]
theorem okps_congr {G : Nat} : ∀ {l : List (Nat × Operand)}, AgreeX G ρ ρ' (l.map (·.2)) → okps G ρ' l = okps G ρ l
  | [], _ => rfl
  | x :: l, h => by
    show (match okv G ρ' x.2 with
      | none => none
      | some v => (match okps G ρ' l with
        | none => none
        | some l => some ((x.1, v) :: l))) = (match okv G ρ x.2 with
      | none => none
      | some v => (match okps G ρ l with
        | none => none
        | some l => some ((x.1, v) :: l)))
    rw [h x.2 (by simp), okps_congr fun y hy => h y (List.mem_cons_of_mem _ hy)]
theorem bnd_congr {G d : Nat} {q : Option Operand} (h : AgreeX G ρ ρ' q.toArray.toList) : bnd G ρ' d q = bnd G ρ d q := by
  cases q with
  | none => rfl
  | some x => simp only [bnd]; rw [h x (by simp)]
theorem eOp_congr {op : Op} (h : AgreeX P.globals.size ρ ρ' op.operands.toList) : eOp P ρ' M op = eOp P ρ M op := by
  cases op with
  | move x => simp only [eOp, eMove, h x (by simp [Op.operands])]
  | assign x => simp only [eOp, eMove, h x (by simp [Op.operands])]
  | pick c a b => simp only [eOp, ePick, h c (by simp [Op.operands]), h a (by simp [Op.operands]), h b (by simp [Op.operands])]
  | alloc t => rfl
  | box t x => simp only [eOp, eBox, h x (by simp [Op.operands])]
  | build t ps => simp only [eOp, eBuild]; rw [okps_congr (by simpa [Op.operands] using h)]
  | buildSlice t n ps =>
    simp only [eOp]
    unfold eBuildS
    split
    · rfl
    · simp only [eBuildS1]; rw [okps_congr (by simpa [Op.operands] using h)]
  | load t x => simp only [eOp, eLoad, h x (by simp [Op.operands])]
  | store t x y => simp only [eOp, eStore, h x (by simp [Op.operands]), h y (by simp [Op.operands])]
  | nilCheck x => simp only [eOp, eNil, h x (by simp [Op.operands])]
  | binOp op xt x y yt => simp only [eOp, eBin, h x (by simp [Op.operands]), h y (by simp [Op.operands])]
  | unOp op xt x => simp only [eOp, eUn, h x (by simp [Op.operands])]
  | convert s d x => simp only [eOp, eConv, h x (by simp [Op.operands])]
  | makeInterface xt x => simp only [eOp, eMkI, h x (by simp [Op.operands])]
  | makeFunc fn a c =>
    simp only [eOp, eMkF]
    rw [okvs_congr (ρ := ρ) (ρ' := ρ') (l := a.toList) fun x hx => h x (by simp [Op.operands]; exact .inl (by simpa using hx)), okvs_congr (ρ := ρ) (ρ' := ρ') (l := c.toList) fun x hx => h x (by simp [Op.operands]; exact .inr (by simpa using hx))]
  | makeSlice t x y => simp only [eOp, eMake, h x (by simp [Op.operands]), h y (by simp [Op.operands])]
  | slice t x l hi m =>
    have hx := h x (by simp [Op.operands])
    have hl : ∀ d, bnd P.globals.size ρ' d l = bnd P.globals.size ρ d l := fun d => bnd_congr fun y hy => h y (by simp [Op.operands]; simp at hy; exact .inr (.inl hy))
    have hh : ∀ d, bnd P.globals.size ρ' d hi = bnd P.globals.size ρ d hi := fun d => bnd_congr fun y hy => h y (by simp [Op.operands]; simp at hy; exact .inr (.inr (.inl hy)))
    have hm : ∀ d, bnd P.globals.size ρ' d m = bnd P.globals.size ρ d m := fun d => bnd_congr fun y hy => h y (by simp [Op.operands]; simp at hy; exact .inr (.inr (.inr hy)))
    cases hi with
    | none =>
      cases m with
      | none => simp only [eOp, eSlice, hx, hl, hh]
      | some m => simp only [eOp, eSlice, hx, hl, hh]
    | some hi =>
      cases m with
      | none => simp only [eOp, eSlice, hx, hl, hh]
      | some m => simp only [eOp, eSlice, hx, hl, hh, hm]
  | fieldAddr t x n => simp only [eOp, eFldA, h x (by simp [Op.operands])]
  | field t x n => simp only [eOp, eField, h x (by simp [Op.operands])]
  | indexAddr t x y => simp only [eOp, eIxA, h x (by simp [Op.operands]), h y (by simp [Op.operands])]
  | index t x y => simp only [eOp, eIx, h x (by simp [Op.operands]), h y (by simp [Op.operands])]
  | typeAssert x xt a ok => simp only [eOp, eAssert, h x (by simp [Op.operands])]
  | extract x i => simp only [eOp, eExtract, h x (by simp [Op.operands])]
  | call c =>
    obtain ⟨cal, ⟨xs⟩, ⟨ts⟩⟩ := c
    cases cal with
    | builtin b =>
      have hx : ∀ x ∈ xs, okv P.globals.size ρ' x = okv P.globals.size ρ x := fun x hx => h x (by simp [Op.operands, Call.operands]; simpa using hx)
      cases b with
      | len =>
        simp only [eOp]
        split
        · rename_i a; simp only [eLen, hx a (by simp)]
        · rfl
      | unsafeSliceData =>
        simp only [eOp]
        split
        · rename_i a; simp only [eUsd, hx a (by simp)]
        · rfl
      | unsafeString =>
        simp only [eOp]
        split
        · split
          · simp only [eUstr, hx _ (List.mem_cons_self ..), hx _ (List.mem_cons_of_mem _ (List.mem_cons_self ..))]
          · rfl
        · rfl
      | cap =>
        simp only [eOp]
        split
        · rename_i a; simp only [eCap, hx a (by simp)]
        · rfl
      | max =>
        simp only [eOp]
        split
        · simp only [eMM, hx _ (List.mem_cons_self ..), hx _ (List.mem_cons_of_mem _ (List.mem_cons_self ..))]
        · rfl
      | min =>
        simp only [eOp]
        split
        · simp only [eMM, hx _ (List.mem_cons_self ..), hx _ (List.mem_cons_of_mem _ (List.mem_cons_self ..))]
        · rfl
      | append =>
        simp only [eOp]
        split
        · split
          · simp only [eAppend, eAppendZ, hx _ (List.mem_cons_self ..), hx _ (List.mem_cons_of_mem _ (List.mem_cons_self ..))]
          · rfl
        · rfl
      | copy =>
        simp only [eOp]
        split
        · split
          · simp only [eCopy, hx _ (List.mem_cons_self ..), hx _ (List.mem_cons_of_mem _ (List.mem_cons_self ..))]
          · rfl
        · rfl
      | _ => rfl
    | value f => rfl
    | invoke r m => rfl
  | _ => rfl
theorem agr_x {ops : Array Oper} {o : Oper} {G : Nat} (h : Agr ops o ρ ρ') : AgreeX G ρ ρ' o.op.operands.toList := by
  intro x hx
  refine okv_congr fun t ht => h t ?_
  subst ht
  unfold looks
  rw [List.mem_append]
  exact .inl (List.mem_filterMap.2 ⟨_, hx, rfl⟩)

/-! guards -/
noncomputable def gd (ops : Array Oper) (ρ : Env) : Option (Nat × Bool) → Option Bool
  | none => some true
  | some (j, w) => (match dstOf ops j with
    | none => none
    | some t => (match ρ t with
      | .bool u => some (u == w)
      | .tuple ⟨[]⟩ => some false
      | _ => none))
theorem gd_spec {ops : Array Oper} {o : Oper} {b : Bool} (h : gd ops ρ o.guard = some b) (h' : Agr ops o ρ ρ') : wants ops o ρ' b := by
  unfold wants
  cases hg : o.guard with
  | none => rw [hg] at h; simp only [gd, Option.some.injEq] at h; exact h.symm
  | some p =>
    obtain ⟨j, w⟩ := p
    rw [hg] at h
    simp only [gd] at h
    cases hd : dstOf ops j with
    | none => rw [hd] at h; cases h
    | some t =>
      rw [hd] at h
      simp only at h
      have e : ρ' t = ρ t := h' t (by
        unfold looks
        rw [List.mem_append]
        refine .inr ?_
        rw [hg]; simp [hd])
      refine ⟨t, hd, ?_⟩
      rw [e]
      split at h
      · rename_i u hu
        simp only [Option.some.injEq] at h
        exact .inl ⟨u, hu, h.symm⟩
      · rename_i hu
        simp only [Option.some.injEq] at h
        exact .inr ⟨hu, h.symm⟩
      · cases h
theorem Agr.refl {ops : Array Oper} {o : Oper} : Agr ops o ρ ρ := fun _ _ => rfl

/-! calls -/
noncomputable def fnOk (P : Program) (g : FuncId) : Bool := match P.funcs[g]? with
  | some fn => (match fn.body with
    | some _ => !(fn.name == "runtime.NumGoroutine")
    | none => false)
  | none => false
theorem fnOk_spec {g : FuncId} (h : fnOk P g = true) : ∃ fn c, P.funcs[g]? = some fn ∧ (fn.name == "runtime.NumGoroutine") = false ∧ fn.body = some c := by
  unfold fnOk at h
  split at h
  · rename_i fn hf
    split at h
    · rename_i c hb
      exact ⟨fn, c, hf, by simpa using h, hb⟩
    · cases h
  · cases h
noncomputable def calls (P : Program) (ρ : Env) (z : Operand) (xs : List Operand) : Option (FuncId × List Value) := match okv P.globals.size ρ z with
  | some (.func (.func g) ⟨fa⟩ ⟨ca⟩) => (match okvs P.globals.size ρ xs with
    | none => none
    | some l => bif fnOk P g then some (g, fa ++ l ++ ca) else none)
  | _ => none
theorem calls_spec {z : Operand} {xs : List Operand} {at' : Array TypeId} {g : FuncId} {l : List Value} (hop : o.op = .call { callee := .value z, args := ⟨xs⟩, argTypes := at' }) (h : calls P ρ z xs = some (g, l)) : OpC P o ρ g l := by
  unfold calls at h
  split at h
  · rename_i g' fa ca hz
    split at h
    · cases h
    rename_i r hr
    rw [cond_some] at h
    obtain ⟨hf, h⟩ := h
    simp only [Option.some.injEq, Prod.mk.injEq] at h
    obtain ⟨rfl, rfl⟩ := h
    obtain ⟨z1, z2⟩ := okv_spec hz
    obtain ⟨r1, r2⟩ := okvs_spec hr
    obtain ⟨fn, c, f1, f2, f3⟩ := fnOk_spec hf
    exact opc_dyn hop z1 (by simpa using r1) z2 f1 f2 f3 (by simp [r2])
  · cases h
theorem calls_congr {z : Operand} {xs : List Operand} (h : AgreeX P.globals.size ρ ρ' (z :: xs)) : calls P ρ' z xs = calls P ρ z xs := by
  simp only [calls]
  rw [h z (by simp), okvs_congr (ρ := ρ) (ρ' := ρ') (l := xs) fun y hy => h y (by simp [hy])]
/-- functions that the model itself answers -/
inductive Ext where
  | idx
  | same
abbrev Exts := FuncId → Option Ext
def ExtOk (P : Program) (X : Exts) : Prop := ∀ g, (X g = some .idx → IsExt P g Extern.BytealgIndexByte.indexByte) ∧ (X g = some .same → IsExt P g Extern.AbiNoEscape.same)
noncomputable def extR (P : Program) (X : Exts) (ρ : Env) (z : Operand) (xs : List Operand) : Option Value := match z with
  | .func g => (match X g with
    | some .idx => (match okvs P.globals.size ρ xs with
      | some [.string a, .int .u8 c] => some (.int .i64 (firstIdx a c.toNat.toUInt8))
      | _ => none)
    | some .same => (match okvs P.globals.size ρ xs with
      | some [v] => some v
      | _ => none)
    | none => none)
  | _ => none
theorem extR_spec {X : Exts} (hX : ExtOk P X) {z : Operand} {xs : List Operand} {at' : Array TypeId} {aw : AW} (hop : o.op = .call { callee := .value z, args := ⟨xs⟩, argTypes := at' }) (h : extR P X ρ z xs = some v) : OpV P o ρ aw v aw := by
  unfold extR at h
  split at h
  · rename_i g
    split at h
    · rename_i hg
      split at h
      · rename_i a c hxs
        obtain ⟨a1, a2⟩ := okvs_spec hxs
        simp only [Option.some.injEq] at h; subst h
        exact ov_idx hop a1 ((hX g).1 hg) a2
      · cases h
    · rename_i hg
      split at h
      · rename_i u hxs
        obtain ⟨a1, a2⟩ := okvs_spec hxs
        simp only [Option.some.injEq] at h; subst h
        exact ov_noEsc hop a1 ((hX g).2 hg) a2
      · cases h
    · cases h
  · cases h
theorem extR_congr {X : Exts} {z : Operand} {xs : List Operand} (h : AgreeX P.globals.size ρ ρ' (z :: xs)) : extR P X ρ' z xs = extR P X ρ z xs := by
  have hs : okvs P.globals.size ρ' xs = okvs P.globals.size ρ xs := okvs_congr fun y hy => h y (by simp [hy])
  unfold extR
  rw [hs]
noncomputable def defers (P : Program) (ρ : Env) (z : Operand) (xs : List Operand) : Option Deferred := match okv P.globals.size ρ z with
  | some (.func (.func g) ⟨fa⟩ ⟨ca⟩) => (match okvs P.globals.size ρ xs with
    | none => none
    | some l => some { target := .fn (.func g) ⟨ca⟩, args := ⟨fa ++ l⟩ })
  | _ => none
theorem defers_spec {z : Operand} {xs : List Operand} {at' : Array TypeId} {d : Deferred} (hop : o.op = .defer { callee := .value z, args := ⟨xs⟩, argTypes := at' }) (h : defers P ρ z xs = some d) : OpD P o ρ d := by
  unfold defers at h
  split at h
  · rename_i g' fa ca hz
    split at h
    · cases h
    rename_i r hr
    simp only [Option.some.injEq] at h
    subst h
    obtain ⟨z1, z2⟩ := okv_spec hz
    obtain ⟨r1, r2⟩ := okvs_spec hr
    have := opd_dyn (ρ := ρ) (P := P) hop z1 (by simpa using r1) z2
    rw [show (⟨fa ++ r⟩ : Array Value) = ⟨fa⟩ ++ (⟨xs⟩ : Array Operand).map ρ.eval by apply Array.ext'; simp [r2]]
    exact this
  · cases h

/-! operations that leave the memory as it is -/
def quiet (P : Program) : Op → Bool
  | .move _ | .assign _ | .pick _ _ _ | .build _ _ | .load _ _ | .nilCheck _ | .binOp _ _ _ _ _ | .unOp _ _ _ | .makeInterface _ _ | .makeFunc _ _ _ | .slice _ _ _ _ _ | .fieldAddr _ _ _ | .field _ _ _ | .indexAddr _ _ _ | .index _ _ _
  | .typeAssert _ _ _ _ | .extract _ _ => true
  | .call ⟨.builtin .len, _, _⟩ | .call ⟨.builtin .max, _, _⟩ | .call ⟨.builtin .min, _, _⟩ => true
  | .convert _ d _ => (match P.underlying d with | some (.slice _) => false | _ => true)
  | _ => false
theorem quiet_spec {op : Op} (hq : quiet P op = true) (h : eOp P ρ M op = some (v, M')) : M' = M := by
  unfold quiet at hq
  split at hq
  case h_22 => cases hq
  case h_21 sd d x =>
    simp only [eOp] at h
    unfold eConv at h
    split at h
    · cases h
    split at h
    · cases h
    split at h
    · (repeat' split at h) <;> cases h <;> rfl
    · (repeat' split at h) <;> cases h <;> rfl
    · rename_i hd; rw [hd] at hq; cases hq
    · cases h
  case h_18 args ats => obtain ⟨xs⟩ := args; obtain ⟨ts⟩ := ats; simp only [eOp] at h; unfold eLen at h; (repeat' split at h) <;> cases h <;> rfl
  case h_19 args ats => obtain ⟨xs⟩ := args; obtain ⟨ts⟩ := ats; simp only [eOp] at h; unfold eMM at h; simp only [cond_eq_ite] at h; (repeat' split at h) <;> cases h <;> rfl
  case h_20 args ats => obtain ⟨xs⟩ := args; obtain ⟨ts⟩ := ats; simp only [eOp] at h; unfold eMM at h; simp only [cond_eq_ite] at h; (repeat' split at h) <;> cases h <;> rfl
  all_goals simp only [eOp] at h
  · unfold eMove at h; (repeat' split at h) <;> cases h <;> rfl
  · unfold eMove at h; (repeat' split at h) <;> cases h <;> rfl
  · unfold ePick at h; (repeat' split at h) <;> cases h <;> rfl
  · unfold eBuild at h; simp only [cond_eq_ite] at h; (repeat' split at h) <;> cases h <;> rfl
  · unfold eLoad at h; simp only [cond_eq_ite] at h; (repeat' split at h) <;> cases h <;> rfl
  · unfold eNil at h; (repeat' split at h) <;> cases h <;> rfl
  · unfold eBin at h; (repeat' split at h) <;> cases h <;> rfl
  · unfold eUn at h; (repeat' split at h) <;> cases h <;> rfl
  · unfold eMkI at h; (repeat' split at h) <;> cases h <;> rfl
  · unfold eMkF at h; (repeat' split at h) <;> cases h <;> rfl
  · unfold eSlice at h; simp only [cond_eq_ite] at h; (repeat' split at h) <;> cases h <;> rfl
  · unfold eFldA at h; simp only [cond_eq_ite] at h; (repeat' split at h) <;> cases h <;> rfl
  · unfold eField at h; simp only [cond_eq_ite] at h; (repeat' split at h) <;> cases h <;> rfl
  · unfold eIxA at h; simp only [cond_eq_ite] at h; (repeat' split at h) <;> cases h <;> rfl
  · unfold eIx at h; simp only [cond_eq_ite] at h; (repeat' split at h) <;> cases h <;> rfl
  · unfold eAssert at h; simp only [cond_eq_ite] at h; (repeat' split at h) <;> cases h <;> rfl
  · unfold eExtract at h; (repeat' split at h) <;> cases h <;> rfl
end
end Go.Ri
