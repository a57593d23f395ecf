/- The interpreter: operations that give a value. -/
import Derived.Test.YtfoceofohlpafaaDoorRi3
set_option linter.unusedSimpArgs false
set_option linter.unusedVariables false
set_option linter.unusedSectionVars false
namespace Go.Ri
open Go Go.Am Go.RowKit
variable [SymE]

abbrev OR := Option (Value × Mem)
section
variable {P : Program} {ρ : Env} {M M' : Mem} {o : Oper} {v : Value} {xt yt t : TypeId} {x y z : Operand}

noncomputable def src (M : Mem) (size : Nat) : Value → Option (Nat × List Value)
  | .slice (some ⟨b, i, none⟩) n _ => match M.getN b i (Nat.mul n size) with
    | none => none
    | some l => some (n, l)
  | .slice none 0 0 => some (0, [])
  | .string ⟨⟨l⟩⟩ => bif Nat.beq size 1 then some (l.length, bytesV l) else none
  | _ => none
theorem src_spec {size n : Nat} {u : Value} {l : List Value} (h : src M size u = some (n, l)) : Src M.abs size u n l := by
  unfold src at h
  split at h
  · rename_i b i n' c
    cases hg : M.getN b i (Nat.mul n' size) with
    | none => rw [hg] at h; cases h
    | some r =>
      rw [hg] at h
      simp only [Option.some.injEq, Prod.mk.injEq] at h
      obtain ⟨rfl, rfl⟩ := h
      exact .slice (M.getN_spec hg)
  · simp only [Option.some.injEq, Prod.mk.injEq] at h
    obtain ⟨rfl, rfl⟩ := h
    exact .nil
  · rename_i s
    rw [cond_some] at h
    obtain ⟨h1, h2⟩ := h
    simp only [Option.some.injEq, Prod.mk.injEq] at h2
    obtain ⟨rfl, rfl⟩ := h2
    exact .str ⟨⟨s⟩⟩ (Nat.eq_of_beq_eq_true h1)
  · cases h

/-! structs compared -/
noncomputable def eqFs (P : Program) (xs ys : List Value) : List Field → Option Bool := List.rec (motive := fun _ => Option Bool) (some true)
  fun f _ ih => match P.underlying f.type, xs[f.offset]?, ys[f.offset]? with
    | some (.int k), some (.int k1 m), some (.int k2 n) => bif decide (k1 = k) && decide (k2 = k) then (bif decide (m = n) then ih else some false) else none
    | some .string, some (.string a), some (.string b) => bif decide (a = b) then ih else some false
    | some .bool, some (.bool a), some (.bool b) => bif a == b then ih else some false
    | _, _, _ => none

theorem shNN (j : Nat) : 0 ≤ Int.ofNat j := Int.natCast_nonneg j
theorem shlI_eq' (k : IntKind) (m : Int) (j : Nat) : shlI k m j = k.wrap (m * 2 ^ (min (Int.ofNat j).toNat k.bits)) := shlI_eq k m j
theorem shrI_eq' (k : IntKind) (m : Int) (j : Nat) : shrI k m j = m.fdiv (2 ^ (min (Int.ofNat j).toNat k.bits)) := shrI_eq k m j
noncomputable def binI (op : BinOp) (k : IntKind) (m : Int) (k' : IntKind) (n : Int) : Option Value := match op with
  | .shl => (match n with | .ofNat j => some (.int k (shlI k m j)) | .negSucc _ => none)
  | .shr => (match n with | .ofNat j => some (.int k (shrI k m j)) | .negSucc _ => none)
  | op => bif decide (k = k') then ar op k m n else none
theorem binI_spec {op : BinOp} {k k' : IntKind} {m n : Int} (hop : o.op = .binOp op xt x y yt) (hx : okOpd P.globals.size x = true) (hy : okOpd P.globals.size y = true) {ρf : Env} {aw : AW} (h1 : ρf.eval x = .int k m) (h2 : ρf.eval y = .int k' n)
    (h : binI op k m k' n = some v) : OpV P o ρf aw v aw := by
  unfold binI at h
  split at h
  · split at h
    · rename_i j
      simp only [Option.some.injEq] at h
      rw [← h, shlI_eq']
      exact opv_shl hop hx hy h1 h2 (shNN j)
    · cases h
  · split at h
    · rename_i j
      simp only [Option.some.injEq] at h
      rw [← h, shrI_eq']
      exact opv_shr hop hx hy h1 h2 (shNN j)
    · cases h
  · rw [cond_some] at h
    obtain ⟨hk, h⟩ := h
    have hk := of_decide_eq_true hk
    subst hk
    exact ar_spec hop hx hy h1 h2 h
noncomputable def binS (op : BinOp) (a b : List UInt8) : Option Value := match op with
  | .add => bif Nat.ble (a.length + b.length) 4611686018427387904 then some (.string ⟨⟨a ++ b⟩⟩) else none
  | .eql => some (.bool (decide (a = b)))
  | .neq => some (.bool (!decide (a = b)))
  | _ => none
theorem binS_spec {op : BinOp} {a b : List UInt8} (hop : o.op = .binOp op xt x y yt) (hx : okOpd P.globals.size x = true) (hy : okOpd P.globals.size y = true) {ρf : Env} {aw : AW} (h1 : ρf.eval x = .string ⟨⟨a⟩⟩) (h2 : ρf.eval y = .string ⟨⟨b⟩⟩)
    (h : binS op a b = some v) : OpV P o ρf aw v aw := by
  have hinj : ((⟨⟨a⟩⟩ : ByteArray) = ⟨⟨b⟩⟩) ↔ a = b := ⟨fun h => by injection h with h; injection h, fun h => by rw [h]⟩
  unfold binS at h
  split at h
  · rw [cond_some] at h
    obtain ⟨hs, h⟩ := h
    simp only [Option.some.injEq] at h; subst h
    have := opv_cat (aw := aw) hop hx hy h1 h2 (Nat.le_of_ble_eq_true hs)
    rw [show (⟨⟨a⟩⟩ : ByteArray) ++ ⟨⟨b⟩⟩ = ⟨⟨a ++ b⟩⟩ from mkB_append a b] at this
    exact this
  · simp only [Option.some.injEq] at h; subst h
    have := opv_eqS (aw := aw) hop hx hy h1 h2
    rw [show decide (a = b) = decide ((⟨⟨a⟩⟩ : ByteArray) = ⟨⟨b⟩⟩) from decide_eq_decide.2 hinj.symm]
    exact this
  · simp only [Option.some.injEq] at h; subst h
    have := opv_neS (aw := aw) hop hx hy h1 h2
    rw [show decide (a = b) = decide ((⟨⟨a⟩⟩ : ByteArray) = ⟨⟨b⟩⟩) from decide_eq_decide.2 hinj.symm]
    exact this
  · cases h
noncomputable def binB (d : Option TypeDesc) (op : BinOp) (p q : Bool) : Option Value := match d with
  | some .bool => (match op with
    | .eql => some (.bool (p == q))
    | .neq => some (.bool (!(p == q)))
    | _ => none)
  | _ => none
theorem binB_spec {op : BinOp} {p q : Bool} (hop : o.op = .binOp op xt x y yt) (hx : okOpd P.globals.size x = true) (hy : okOpd P.globals.size y = true) {ρf : Env} {aw : AW} (h1 : ρf.eval x = .bool p) (h2 : ρf.eval y = .bool q)
    (h : binB (P.underlying xt) op p q = some v) : OpV P o ρf aw v aw := by
  unfold binB at h
  split at h
  · rename_i hu
    split at h
    · simp only [Option.some.injEq] at h; subst h; exact opv_eqB hop hx hy hu h1 h2
    · simp only [Option.some.injEq] at h; subst h; exact opv_neB hop hx hy hu h1 h2
    · cases h
  · cases h
noncomputable def binN (d : Option TypeDesc) (op : BinOp) (u : Value) (y : Operand) : Option Value := match y, d with
  | .const cv, some d => bif nilFits d u cv then (match op with
    | .eql => some (.bool ((isNil u).getD false))
    | .neq => some (.bool (!(isNil u).getD false))
    | _ => none) else none
  | _, _ => none
theorem binN_spec {op : BinOp} {u : Value} (hop : o.op = .binOp op xt x y yt) (hx : okOpd P.globals.size x = true) {ρf : Env} {aw : AW} (h1 : ρf.eval x = u)
    (h : binN (P.underlying xt) op u y = some v) : OpV P o ρf aw v aw := by
  unfold binN at h
  split at h
  · rename_i cv d hu
    rw [cond_some] at h
    obtain ⟨hf, h⟩ := h
    split at h
    · simp only [Option.some.injEq] at h; subst h; exact opv_eqNil hop hx hu h1 hf
    · simp only [Option.some.injEq] at h; subst h; exact opv_neNil hop hx hu h1 hf
    · cases h
  · cases h
/-! symbols -/
def den : Value → Value
  | .map (some i) => SymE.E i
  | v => v
theorem vr_den {s : Inj} {u u' : Value} (h : VR s u u') : VR s (den u) u' := by
  cases h with
  | sym i =>
    show VR s (SymE.E i) (SymE.E i)
    rcases SymE.leaf i with ⟨k, n, e⟩ | ⟨x, e⟩ <;> rw [e]
    · exact .int k n
    · exact .string x
  | bool b => exact .bool b
  | int k n => exact .int k n
  | float k n => exact .float k n
  | string x => exact .string x
  | nilptr => exact .nilptr
  | ptr h => exact .ptr h
  | nilslice => exact .nilslice
  | slice h1 h2 h3 => exact .slice h1 h2 h3
  | nilmap => exact .nilmap
  | func fn h1 h2 => exact .func fn h1 h2
  | nilFunc => exact .nilFunc
  | iface t h => exact .iface t h
  | nilIface => exact .nilIface
  | agg h => exact .agg h
  | tuple h => exact .tuple h
theorem vr_undo {s : Inj} {v u : Value} (h : VR s (den v) u) : VR s v u := by
  by_cases hv : ∃ i, v = .map (some i)
  · obtain ⟨i, rfl⟩ := hv
    have h : VR s (SymE.E i) u := h
    have : u = SymE.E i := by
      rcases SymE.leaf i with ⟨k, n, e⟩ | ⟨x, e⟩ <;> rw [e] at h ⊢
      · exact h.int_inv
      · exact h.string_inv
    rw [this]; exact .sym i
  · have : den v = v := by
      unfold den
      split
      · rename_i i; exact absurd ⟨i, rfl⟩ hv
      · rfl
    rw [this] at h; exact h
theorem den_eval {G : Nat} {ρ : Env} {x : Operand} (hx : okOpd G x = true) : Env.eval (fun t => den (ρ t)) x = den (ρ.eval x) := by
  cases x with
  | tmp t => rfl
  | const c =>
    show c = den c
    have hc : plain c = true := hx
    unfold den
    split
    · cases hc
    · rfl
  | global g => rfl
  | func f => rfl
theorem opv_den {P : Program} {o : Oper} {ρ : Env} {aw aw' : AW} {v : Value} (h : OpV P o (fun t => den (ρ t)) aw (den v) aw') : OpV P o ρ aw v aw' := by
  intro base w0 s f w hr hf
  obtain ⟨n, v', w', s', h1, h2, h3, h4, h5⟩ := h base w0 s f w hr fun x hx => by
    rw [den_eval hx]; exact vr_den (hf x hx)
  exact ⟨n, v', w', s', h1, h2, h3, h4, vr_undo h5⟩
/-- what is known of symbols: what operations on them give -/
class FT where
  bin : BinOp → Value → Value → Option Value
  un : UnOp → Value → Option Value
  conv : IntKind → Value → Option Value
  len : Value → Option Value
noncomputable def bin0 (op : BinOp) (u w : Value) : Option Value := match u with
  | .int k m => (match w with | .int k' n => binI op k m k' n | _ => none)
  | .string ⟨⟨a⟩⟩ => (match w with | .string ⟨⟨b⟩⟩ => binS op a b | _ => none)
  | _ => none
noncomputable def un0 (op : UnOp) (u : Value) : Option Value := match op, u with
  | .neg, .int k m => some (.int k (fw k (-m)))
  | .xor, .int k m => some (.int k (bitsOf .xor k (if k.signed then -1 else k.max) m))
  | _, _ => none
class FTok [FT] : Prop where
  bin : ∀ op u w v, FT.bin op u w = some v → bin0 op (den u) (den w) = some (den v)
  un : ∀ op u v, FT.un op u = some v → un0 op (den u) = some (den v)
  conv : ∀ j u v, FT.conv j u = some v → ∃ k m, den u = .int k m ∧ den v = .int j (fw j m)
  len : ∀ u v, FT.len u = some v → ∃ l, den u = .string ⟨⟨l⟩⟩ ∧ den v = .int .i64 (.ofNat l.length)
variable [FT] [FTok]
noncomputable def bin (d : Option TypeDesc) (op : BinOp) (u w : Value) (y : Operand) : Option Value := match u with
  | .int k m => (match w with | .int k' n => binI op k m k' n | .map (some j) => FT.bin op (.int k m) (.map (some j)) | _ => none)
  | .string ⟨⟨a⟩⟩ => (match w with | .string ⟨⟨b⟩⟩ => binS op a b | .map (some j) => FT.bin op (.string ⟨⟨a⟩⟩) (.map (some j)) | _ => none)
  | .bool p => (match w with | .bool q => binB d op p q | _ => none)
  | .map (some i) => FT.bin op (.map (some i)) w
  | u => binN d op u y
/-- an operation on symbols -/
theorem binF_spec {op : BinOp} {u w : Value} (hop : o.op = .binOp op xt x y yt) (hx : okOpd P.globals.size x = true) (hy : okOpd P.globals.size y = true) {aw : AW} (h1 : ρ.eval x = u) (h2 : ρ.eval y = w)
    (h : FT.bin op u w = some v) : OpV P o ρ aw v aw := by
  refine opv_den ?_
  have h := FTok.bin op u w v h
  have e1 : Env.eval (fun t => den (ρ t)) x = den u := by rw [den_eval hx, h1]
  have e2 : Env.eval (fun t => den (ρ t)) y = den w := by rw [den_eval hy, h2]
  generalize den u = u' at e1 h
  generalize den w = w' at e2 h
  unfold bin0 at h
  split at h
  · split at h
    · exact binI_spec hop hx hy e1 e2 h
    · cases h
  · split at h
    · exact binS_spec hop hx hy e1 e2 h
    · cases h
  · cases h
noncomputable def eBin (P : Program) (ρ : Env) (M : Mem) (op : BinOp) (xt : TypeId) (x y : Operand) : OR := match okv P.globals.size ρ x with
  | none => none
  | some u => (match okv P.globals.size ρ y with
    | none => none
    | some w => (match bin (P.underlying xt) op u w y with
      | none => none
      | some v => some (v, M)))
theorem eBin_spec {op : BinOp} (hop : o.op = .binOp op xt x y yt) (h : eBin P ρ M op xt x y = some (v, M')) : OpV P o ρ M.abs v M'.abs := by
  unfold eBin at h
  split at h
  · cases h
  rename_i u hx
  split at h
  · cases h
  rename_i w hy
  split at h
  · cases h
  rename_i r hr
  simp only [Option.some.injEq, Prod.mk.injEq] at h
  obtain ⟨rfl, rfl⟩ := h
  obtain ⟨x1, x2⟩ := okv_spec hx
  obtain ⟨y1, y2⟩ := okv_spec hy
  unfold bin at hr
  split at hr
  · split at hr
    · exact binI_spec hop x1 y1 x2 y2 hr
    · exact binF_spec hop x1 y1 x2 y2 hr
    · cases hr
  · split at hr
    · exact binS_spec hop x1 y1 x2 y2 hr
    · exact binF_spec hop x1 y1 x2 y2 hr
    · cases hr
  · split at hr
    · exact binB_spec hop x1 y1 x2 y2 hr
    · cases hr
  · exact binF_spec hop x1 y1 x2 y2 hr
  · exact binN_spec hop x1 x2 hr

noncomputable def eMove (P : Program) (ρ : Env) (M : Mem) (x : Operand) : OR := match okv P.globals.size ρ x with
  | some v => some (v, M)
  | none => none
theorem eMove_spec (hop : o.op = .move x ∨ o.op = .assign x) (h : eMove P ρ M x = some (v, M')) : OpV P o ρ M.abs v M'.abs := by
  unfold eMove at h
  split at h
  · rename_i u hx
    simp only [Option.some.injEq, Prod.mk.injEq] at h
    obtain ⟨rfl, rfl⟩ := h
    obtain ⟨x1, x2⟩ := okv_spec hx
    rcases hop with hop | hop
    · exact opv_move hop x1 x2
    · exact opv_assign hop x1 x2
  · cases h
noncomputable def ePick (P : Program) (ρ : Env) (M : Mem) (x y z : Operand) : OR := match okv P.globals.size ρ x, okv P.globals.size ρ y, okv P.globals.size ρ z with
  | some (.bool b), some u, some w => some (bif b then u else w, M)
  | _, _, _ => none
theorem ePick_spec (hop : o.op = .pick x y z) (h : ePick P ρ M x y z = some (v, M')) : OpV P o ρ M.abs v M'.abs := by
  unfold ePick at h
  split at h
  · rename_i b u w hx hy hz
    simp only [Option.some.injEq, Prod.mk.injEq] at h
    obtain ⟨rfl, rfl⟩ := h
    obtain ⟨x1, x2⟩ := okv_spec hx
    obtain ⟨y1, y2⟩ := okv_spec hy
    obtain ⟨z1, z2⟩ := okv_spec hz
    exact opv_pick hop x1 y1 z1 x2 (by rw [y2, z2]; cases b <;> rfl)
  · cases h
noncomputable def eUn (P : Program) (ρ : Env) (M : Mem) (op : UnOp) (x : Operand) : OR := match op, okv P.globals.size ρ x with
  | .neg, some (.int k m) => some (.int k (fw k (-m)), M)
  | .xor, some (.int k m) => some (.int k (bitsOf .xor k (if k.signed then -1 else k.max) m), M)
  | .not, some (.bool b) => some (.bool (!b), M)
  | .neg, some (.map (some i)) => (match FT.un .neg (.map (some i)) with
    | some v => some (v, M)
    | none => none)
  | _, _ => none
theorem eUn_spec {op : UnOp} (hop : o.op = .unOp op xt x) (h : eUn P ρ M op x = some (v, M')) : OpV P o ρ M.abs v M'.abs := by
  unfold eUn at h
  split at h
  · rename_i k m hx
    simp only [Option.some.injEq, Prod.mk.injEq] at h
    obtain ⟨rfl, rfl⟩ := h
    obtain ⟨x1, x2⟩ := okv_spec hx
    rw [fw_eq]; exact opv_neg hop x1 x2
  · rename_i k m hx
    simp only [Option.some.injEq, Prod.mk.injEq] at h
    obtain ⟨rfl, rfl⟩ := h
    obtain ⟨x1, x2⟩ := okv_spec hx
    exact opv_compl hop x1 x2
  · rename_i b hx
    simp only [Option.some.injEq, Prod.mk.injEq] at h
    obtain ⟨rfl, rfl⟩ := h
    obtain ⟨x1, x2⟩ := okv_spec hx
    exact opv_not hop x1 x2
  · rename_i i hx
    obtain ⟨x1, x2⟩ := okv_spec hx
    split at h
    · rename_i r hr
      simp only [Option.some.injEq, Prod.mk.injEq] at h
      obtain ⟨rfl, rfl⟩ := h
      refine opv_den ?_
      have h := FTok.un .neg _ _ hr
      have e1 : Env.eval (fun t => den (ρ t)) x = den (.map (some i)) := by rw [den_eval x1, x2]
      generalize den (.map (some i)) = u' at e1 h
      unfold un0 at h
      split at h
      · simp only [Option.some.injEq] at h
        rw [← h, fw_eq]; exact opv_neg hop x1 e1
      · rename_i hq; cases hq
      · cases h
    · cases h
  · cases h

noncomputable def unB : List Value → Option (List UInt8) := List.rec (motive := fun _ => Option (List UInt8)) (some []) fun v _ ih => match ih with
  | none => none
  | some r => (match v with
    | .int .u8 (.ofNat n) => bif Nat.ble n 255 then some (UInt8.ofNat n :: r) else none
    | _ => none)
theorem unB_spec : ∀ {l : List Value} {r : List UInt8}, unB l = some r → l = bytesV r
  | [], r, h => by
    have h : some [] = some r := h
    simp only [Option.some.injEq] at h; subst h; rfl
  | u :: l, r, h0 => by
    have h : (match (generalizing := false) unB l with
      | none => none
      | some r => (match (generalizing := false) u with
        | .int .u8 (.ofNat n) => bif Nat.ble n 255 then some (UInt8.ofNat n :: r) else none
        | _ => none)) = some r := h0
    clear h0
    split at h
    · cases h
    · rename_i r' hr
      split at h
      · rename_i n
        rw [cond_some] at h
        obtain ⟨hn, h⟩ := h
        simp only [Option.some.injEq] at h
        subst h
        rw [unB_spec hr]
        have := Nat.le_of_ble_eq_true hn
        simp only [bytesV, List.map_cons]
        have e : (UInt8.ofNat n).toNat = n := by simp; omega
        rw [e]; rfl
      · cases h
noncomputable def eConv (P : Program) (ρ : Env) (M : Mem) (s d : TypeId) (x : Operand) : OR := match okv P.globals.size ρ x with
  | none => none
  | some u => (match P.underlying s with
    | none => none
    | some ds => (match P.underlying d with
      | some (.int j) => (match u with
        | .int _ m => some (.int j (fw j m), M)
        | .map (some i) => (match FT.conv j (.map (some i)) with
          | some v => some (v, M)
          | none => none)
        | _ => none)
      | some .string => (match u with
        | .string a => some (.string a, M)
        | .slice q m c => (match ds with
          | .slice e => (match P.underlying e with
            | some (.int .u8) => (match src M 1 (.slice q m c) with
              | some (n, l) => (match unB l with
                | some r => some (.string ⟨⟨r⟩⟩, M)
                | none => none)
              | none => none)
            | _ => none)
          | _ => none)
        | _ => none)
      | some (.slice e) => (match u with
        | .string ⟨⟨a⟩⟩ => (match P.underlying e with
          | some (.int .u8) => some (.slice (some ⟨M.next, 0, none⟩) a.length UNK, M.alloc (bytesV a) e 1)
          | _ => none)
        | _ => none)
      | _ => none))
theorem eConv_spec {s d : TypeId} (hop : o.op = .convert s d x) (h : eConv P ρ M s d x = some (v, M')) : OpV P o ρ M.abs v M'.abs := by
  unfold eConv at h
  split at h
  · cases h
  rename_i u hx
  obtain ⟨x1, x2⟩ := okv_spec hx
  split at h
  · cases h
  rename_i ds hs
  split at h
  · rename_i j hd
    split at h
    · simp only [Option.some.injEq, Prod.mk.injEq] at h
      obtain ⟨rfl, rfl⟩ := h
      rw [fw_eq]; exact opv_conv hop x1 hs hd x2
    · rename_i i
      split at h
      · rename_i r hr
        simp only [Option.some.injEq, Prod.mk.injEq] at h
        obtain ⟨rfl, rfl⟩ := h
        refine opv_den ?_
        obtain ⟨k, m, h1, h2⟩ := FTok.conv j _ _ hr
        have e1 : Env.eval (fun t => den (ρ t)) x = .int k m := by rw [den_eval x1, x2, h1]
        rw [h2, fw_eq]; exact opv_conv hop x1 hs hd e1
      · cases h
    · cases h
  · rename_i hd
    split at h
    · simp only [Option.some.injEq, Prod.mk.injEq] at h
      obtain ⟨rfl, rfl⟩ := h
      exact opv_convS hop x1 hs hd x2
    · split at h
      · split at h
        · rename_i he
          split at h
          · rename_i n l hsrc
            split at h
            · rename_i r hr
              simp only [Option.some.injEq, Prod.mk.injEq] at h
              obtain ⟨rfl, rfl⟩ := h
              have := src_spec hsrc
              rw [unB_spec hr] at this
              exact opv_toStr hop x1 hs hd he x2 this ⟨_, _, _, rfl⟩
            · cases h
          · cases h
        · cases h
      · cases h
    · cases h
  · rename_i e hd
    split at h
    · split at h
      · rename_i he
        simp only [Option.some.injEq, Prod.mk.injEq] at h
        obtain ⟨rfl, rfl⟩ := h
        rw [M.alloc_spec]
        exact opv_toBytes hop x1 hs hd he x2
      · cases h
    · cases h
  · cases h
noncomputable def eExtract (P : Program) (ρ : Env) (M : Mem) (x : Operand) (i : Nat) : OR := match okv P.globals.size ρ x with
  | some (.tuple ⟨l⟩) => (match l[i]? with
    | some v => some (v, M)
    | none => none)
  | _ => none
theorem eExtract_spec {i : Nat} (hop : o.op = .extract x i) (h : eExtract P ρ M x i = some (v, M')) : OpV P o ρ M.abs v M'.abs := by
  unfold eExtract at h
  split at h
  · rename_i l hx
    obtain ⟨x1, x2⟩ := okv_spec hx
    split at h
    · rename_i u hu
      simp only [Option.some.injEq, Prod.mk.injEq] at h
      obtain ⟨rfl, rfl⟩ := h
      exact opv_extract hop x1 x2 (by simpa using hu)
    · cases h
  · cases h
noncomputable def eMkI (P : Program) (ρ : Env) (M : Mem) (xt : TypeId) (x : Operand) : OR := match okv P.globals.size ρ x, P.underlying xt with
  | some u, some d => (match d with
    | .interface _ => none
    | _ => some (.iface xt u, M))
  | _, _ => none
theorem eMkI_spec (hop : o.op = .makeInterface xt x) (h : eMkI P ρ M xt x = some (v, M')) : OpV P o ρ M.abs v M'.abs := by
  unfold eMkI at h
  split at h
  · rename_i u d hx hu
    obtain ⟨x1, x2⟩ := okv_spec hx
    split at h
    · cases h
    · rename_i hd
      simp only [Option.some.injEq, Prod.mk.injEq] at h
      obtain ⟨rfl, rfl⟩ := h
      exact opv_mkIface hop x1 hu (by cases d <;> first | rfl | exact absurd rfl (hd _)) x2
  · cases h
noncomputable def eMkF (P : Program) (ρ : Env) (M : Mem) (fn : Fn) (a c : Array Operand) : OR := match okvs P.globals.size ρ a.toList, okvs P.globals.size ρ c.toList with
  | some u, some w => some (.func fn ⟨u⟩ ⟨w⟩, M)
  | _, _ => none
theorem eMkF_spec {fn : Fn} {a c : Array Operand} (hop : o.op = .makeFunc fn a c) (h : eMkF P ρ M fn a c = some (v, M')) : OpV P o ρ M.abs v M'.abs := by
  unfold eMkF at h
  split at h
  · rename_i u w ha hc
    obtain ⟨a1, a2⟩ := okvs_spec ha
    obtain ⟨c1, c2⟩ := okvs_spec hc
    simp only [Option.some.injEq, Prod.mk.injEq] at h
    obtain ⟨rfl, rfl⟩ := h
    have := opv_mkFunc (ρ := ρ) (aw := M.abs) hop a1 c1
    rw [show a.map ρ.eval = ⟨u⟩ by apply Array.ext'; simp [a2], show c.map ρ.eval = ⟨w⟩ by apply Array.ext'; simp [c2]] at this
    exact this
  · cases h
noncomputable def eNil (P : Program) (ρ : Env) (M : Mem) (x : Operand) : OR := match okv P.globals.size ρ x with
  | some (.pointer (some ⟨b, i, none⟩)) => some (.pointer (some ⟨b, i, none⟩), M)
  | some (.func (.func g) a c) => some (.func (.func g) a c, M)
  | _ => none
theorem eNil_spec (hop : o.op = .nilCheck x) (h : eNil P ρ M x = some (v, M')) : OpV P o ρ M.abs v M'.abs := by
  unfold eNil at h
  split at h
  · rename_i b i hx
    simp only [Option.some.injEq, Prod.mk.injEq] at h
    obtain ⟨rfl, rfl⟩ := h
    obtain ⟨x1, x2⟩ := okv_spec hx
    exact opv_nilCheckP hop x1 x2
  · rename_i g a c hx
    simp only [Option.some.injEq, Prod.mk.injEq] at h
    obtain ⟨rfl, rfl⟩ := h
    obtain ⟨x1, x2⟩ := okv_spec hx
    exact opv_nilCheckF hop x1 x2
  · cases h
noncomputable def eField (P : Program) (ρ : Env) (M : Mem) (xt : TypeId) (x : Operand) (i : Nat) : OR := match okv P.globals.size ρ x, P.underlying xt with
  | some (.agg ⟨cs⟩), some (.struct fs) => (match fs[i]? with
    | none => none
    | some f => (match P.underlying f.type with
      | none => none
      | some d => bif aggT d then (match (P.info? f.type).map (·.size) with
          | none => none
          | some n => some (.agg ⟨(cs.drop f.offset).take n⟩, M))
        else (match cs[f.offset]? with
          | none => none
          | some v => some (v, M))))
  | _, _ => none
theorem eField_spec {i : Nat} (hop : o.op = .field xt x i) (h : eField P ρ M xt x i = some (v, M')) : OpV P o ρ M.abs v M'.abs := by
  unfold eField at h
  split at h
  · rename_i cs fs hx hu
    obtain ⟨x1, x2⟩ := okv_spec hx
    split at h
    · cases h
    · rename_i f hf
      split at h
      · cases h
      · rename_i d hd
        cases ha : aggT d with
        | true =>
          rw [ha] at h
          simp only [cond_true] at h
          split at h
          · cases h
          · rename_i n hn
            simp only [Option.some.injEq, Prod.mk.injEq] at h
            obtain ⟨rfl, rfl⟩ := h
            exact opv_fieldN hop x1 hu hf hd ha hn x2 (by congr 1; apply Array.ext'; simp [List.take_drop, Nat.add_comm])
        | false =>
          rw [ha] at h
          simp only [cond_false] at h
          split at h
          · cases h
          · rename_i u hv
            simp only [Option.some.injEq, Prod.mk.injEq] at h
            obtain ⟨rfl, rfl⟩ := h
            exact opv_field1 hop x1 hu hf hd ha x2 (by simpa using hv)
  · cases h
noncomputable def eLoad (P : Program) (ρ : Env) (M : Mem) (t : TypeId) (x : Operand) : OR := match okv P.globals.size ρ x, P.underlying t with
  | some (.pointer (some ⟨b, i, none⟩)), some d => bif aggT d then (match (P.info? t).map (·.size) with
      | none => none
      | some n => (match M.getN b i n with
        | none => none
        | some l => some (.agg ⟨l⟩, M)))
    else (match M.get b i with
      | none => none
      | some v => some (v, M))
  | _, _ => none
theorem eLoad_spec (hop : o.op = .load t x) (h : eLoad P ρ M t x = some (v, M')) : OpV P o ρ M.abs v M'.abs := by
  unfold eLoad at h
  split at h
  · rename_i b i d hx hu
    obtain ⟨x1, x2⟩ := okv_spec hx
    cases ha : aggT d with
    | true =>
      rw [ha] at h
      simp only [cond_true] at h
      split at h
      · cases h
      · rename_i n hn
        split at h
        · cases h
        · rename_i l hl
          simp only [Option.some.injEq, Prod.mk.injEq] at h
          obtain ⟨rfl, rfl⟩ := h
          exact opv_loadN hop hu ha hn x1 x2 (M.getN_spec hl)
    | false =>
      rw [ha] at h
      simp only [cond_false] at h
      split at h
      · cases h
      · rename_i u hv
        simp only [Option.some.injEq, Prod.mk.injEq] at h
        obtain ⟨rfl, rfl⟩ := h
        exact opv_load1 hop hu ha x1 x2 (M.get_spec hv)
  · cases h
def cellsL : Value → List Value
  | .agg ⟨l⟩ => l
  | v => [v]
theorem cellsL_eq (v : Value) : cellsL v = v.cells.toList := by cases v <;> rfl
noncomputable def eStore (P : Program) (ρ : Env) (M : Mem) (t : TypeId) (x y : Operand) : OR := match okv P.globals.size ρ x, okv P.globals.size ρ y, (P.info? t).map (·.size) with
  | some (.pointer (some ⟨b, i, none⟩)), some u, some n => bif Nat.beq n (cellsL u).length then (match M.setN b i (cellsL u) with
      | none => none
      | some M' => some (undef, M')) else none
  | _, _, _ => none
theorem eStore_spec (hop : o.op = .store t x y) (h : eStore P ρ M t x y = some (v, M')) : OpV P o ρ M.abs v M'.abs := by
  unfold eStore at h
  split at h
  · rename_i b i u n hx hy hn
    obtain ⟨x1, x2⟩ := okv_spec hx
    obtain ⟨y1, y2⟩ := okv_spec hy
    rw [cond_some] at h
    obtain ⟨hl, h⟩ := h
    split at h
    · cases h
    · rename_i M'' hM
      simp only [Option.some.injEq, Prod.mk.injEq] at h
      obtain ⟨rfl, rfl⟩ := h
      obtain ⟨e1, e2, e3⟩ := M.setN_spec hM
      have hl := Nat.eq_of_beq_eq_true hl
      rw [cellsL_eq] at e1 e2 e3 hl
      rw [e1]
      exact opv_store hop x1 y1 x2 y2 (by rw [hn, hl]) e3 e2
  · cases h
noncomputable def eAlloc (P : Program) (M : Mem) (t : TypeId) : OR := match (P.info? t).bind (·.zero) with
  | some z => bif plains (cellsL z) then some (.pointer (some ⟨M.next, 0, none⟩), M.alloc (cellsL z) t 0) else none
  | none => none
theorem eAlloc_spec (hop : o.op = .alloc t) (h : eAlloc P M t = some (v, M')) : OpV P o ρ M.abs v M'.abs := by
  unfold eAlloc at h
  split at h
  · rename_i zz hz
    rw [cond_some] at h
    obtain ⟨hp, h⟩ := h
    simp only [Option.some.injEq, Prod.mk.injEq] at h
    obtain ⟨rfl, rfl⟩ := h
    rw [M.alloc_spec, cellsL_eq]
    exact opv_alloc hop hz (by rw [← cellsL_eq]; exact hp)
  · cases h
noncomputable def eBox (P : Program) (ρ : Env) (M : Mem) (t : TypeId) (x : Operand) : OR := match okv P.globals.size ρ x with
  | some u => some (.pointer (some ⟨M.next, 0, none⟩), M.alloc (cellsL u) t 0)
  | none => none
theorem eBox_spec (hop : o.op = .box t x) (h : eBox P ρ M t x = some (v, M')) : OpV P o ρ M.abs v M'.abs := by
  unfold eBox at h
  split at h
  · rename_i u hx
    obtain ⟨x1, x2⟩ := okv_spec hx
    simp only [Option.some.injEq, Prod.mk.injEq] at h
    obtain ⟨rfl, rfl⟩ := h
    rw [M.alloc_spec, cellsL_eq]
    exact opv_box hop x1 x2
  · cases h
end
end Go.Ri
