/- Links for regions of open order, those that read stay pending (ago_drawF). -/
import Derived.Test.YtfoceofohlpafaaDoorAm18
import Derived.Test.YtfoceofohlpafaaDoorAm19
set_option linter.unusedSimpArgs false
set_option linter.unusedVariables false
set_option linter.unusedSectionVars false
namespace Go.Am
open Go Go.RowKit
variable [SymE]

section
variable {P : Program} {N : Nat} {ops : Array Oper} {p q nh : List Nat} {tl r : Tl} {k : List Item} {ρ ρm : Env} {ds : List Deferred} {aw aw' : AW} {c : Code} {o : Oper} {t d : Nat} {v : Value} {dt : Option Tmp}
  {Kn : Env → List Deferred → AW → Prop} {Kp : List PanicEntry → Env → List Deferred → AW → Prop} {R : ADone → Env → List Deferred → AW → Prop}

theorem offV : ∀ (hv : List (Nat × Value)) (ρ : Env) {p : List Nat}, (∀ i ∈ hv.map (·.1), i ∈ p) → OffL ops p ρ (putV ops ρ hv)
  | [], ρ, p, _ => fun t _ => rfl
  | (i, v) :: r, ρ, p, h => by
    intro t ht
    have h1 := offV r (ρ.put (dstOf ops i) v) (p := p) (fun j hj => h j (by simp only [List.map_cons, List.mem_cons]; exact .inr hj)) t ht
    simp only [putV]
    rw [h1]
    have h2 := ht i (h i (by simp))
    cases hd : dstOf ops i with
    | none => rfl
    | some x =>
      rw [put_at, if_neg]
      rintro rfl
      exact h2 hd
theorem ffn : FFl P ops [] ρ aw := fun i hi => by simp at hi
theorem ffc {i d : Nat} {v : Value} {l : List Nat} (h : ∀ o', ops[i]? = some o' → HeadOp P ops o' ρ aw v) (hd : dstOf ops i = some d) (hv : ρ d = v) (r : FFl P ops l ρ aw) : FFl P ops (i :: l) ρ aw := by
  intro j hj o ho d' hd'
  rcases List.mem_cons.1 hj with rfl | hj
  · have : dstOf ops j = some d' := by simp [dstOf, ho, hd']
    rw [hd] at this
    injection this with this
    subst this
    rw [hv]
    exact h o ho
  · exact r j hj o ho d' hd'
theorem ago_drawH {id : Nat} {hv : List (Nat × Value)} (e : c = .region id ops true) (hm : P.follows .mixedOrders = true) (hN : dstsOk N ops = true) (hok : linOk ops p tl = true)
    (hh : hv.map (·.1) = p) (hρ : putV ops ρ hv = ρm) (hop : FFl P ops p ρm aw)
    (hk : LinT P ops (fun ρ' ds' aw' => AGo P N k ρ' ds' aw' R) (fun ch ρ' ds' aw' => R (.panic ch) ρ' ds' aw') tl ρm ds aw) : AGo P N (.code c :: k) ρ ds aw R :=
  ago_drawF e hm hN hok (by subst hρ; subst hh; exact offV hv ρ fun _ h => h) hop hk
def NextT (P : Program) (ops : Array Oper) (Kn : Env → List Deferred → AW → Prop) (Kp : List PanicEntry → Env → List Deferred → AW → Prop) (q nh : List Nat) (r : Tl) (ρ' : Env) (ds' : List Deferred) (aw' : AW) : Prop :=
  ∃ ρ2, OffL ops nh ρ' ρ2 ∧ FFl P ops (q ++ nh) ρ2 aw' ∧ LinT P ops Kn Kp r ρ2 ds' aw'
theorem lt_next {l : List Nat} {hv : List (Nat × Value)} (hh : hv.map (·.1) = nh) (hl : q ++ nh = l) (hρ : putV ops ρ hv = ρm) (hop : FFl P ops l ρm aw) (hk : LinT P ops Kn Kp r ρm ds aw) : NextT P ops Kn Kp q nh r ρ ds aw :=
  ⟨ρm, by subst hρ; subst hh; exact offV hv ρ fun _ h => h, by rw [hl]; exact hop, hk⟩
theorem lt_end (h : Kn ρ ds aw) : LinT P ops Kn Kp [] ρ ds aw := h
theorem lt_val (ho : ops[t]? = some o) (hd : o.dst = dt) (h : ∀ ρ', (∀ t ∈ looks ops o, ρ' t = ρ t) → wants ops o ρ' true ∧ OpV P o ρ' aw v aw') (hn : NextT P ops Kn Kp q nh r (ρ.put dt v) ds aw') : LinT P ops Kn Kp ((t, q, nh) :: r) ρ ds aw :=
  ⟨o, ho, .val h (by rw [hd]; exact hn)⟩
theorem lt_skip (ho : ops[t]? = some o) (hd : o.dst = dt) (h : ∀ ρ', (∀ t ∈ looks ops o, ρ' t = ρ t) → wants ops o ρ' false) (hn : NextT P ops Kn Kp q nh r (ρ.put dt undef) ds aw) : LinT P ops Kn Kp ((t, q, nh) :: r) ρ ds aw :=
  ⟨o, ho, .skip h (by rw [hd]; exact hn)⟩
theorem lt_panic (ho : ops[t]? = some o) (h : ∀ ρ', (∀ t ∈ looks ops o, ρ' t = ρ t) → wants ops o ρ' true ∧ OpP P o ρ' aw v) (hn : ∀ ρ', Kp [⟨v, false, false⟩] ρ' ds aw) : LinT P ops Kn Kp ((t, q, nh) :: r) ρ ds aw :=
  ⟨o, ho, .panic h fun ρ' _ => hn ρ'⟩
theorem lt_call {α : Type} {sh : α → Value} {K : α → AW → Prop} {E : List PanicEntry → AW → Prop} {fid : FuncId} {args : List Value} (ho : ops[t]? = some o) (hd : o.dst = dt)
    (h : ∀ ρ', (∀ t ∈ looks ops o, ρ' t = ρ t) → wants ops o ρ' true ∧ OpC P o ρ' fid args) (H : CallP P fid args aw sh K E) (hE : ∀ ch aw, E ch aw → ∀ ρ', Kp ch ρ' ds aw)
    (hn : ∀ x aw', K x aw' → NextT P ops Kn Kp q nh r (ρ.put dt (sh x)) ds aw') : LinT P ops Kn Kp ((t, q, nh) :: r) ρ ds aw :=
  ⟨o, ho, .call h (ACalls.mono H fun e aw h => match e, h with
    | .returned _, ⟨x, h1, h2⟩ => by subst h1; subst hd; exact hn x aw h2
    | .panicked _, h => fun ρ' _ => hE _ _ h ρ')⟩
theorem lt_callV {α : Type} {sh : α → Value} {K : α → AW → Prop} {E : List PanicEntry → AW → Prop} {xs : Array Operand} {args : List Value} {z : Operand} {zv : Value} {at' : Array TypeId} (ho : ops[t]? = some o) (hd : o.dst = dt)
    (hop : o.op = .call { callee := .value z, args := xs, argTypes := at' }) (hz : okOpd P.globals.size z = true) (hok : xs.toList.all (okOpd P.globals.size) = true)
    (h : ∀ ρ', (∀ t ∈ looks ops o, ρ' t = ρ t) → wants ops o ρ' true ∧ ρ'.eval z = zv ∧ xs.toList.map ρ'.eval = args) (H : CallV P zv args aw sh K E) (hE : ∀ ch aw, E ch aw → ∀ ρ', Kp ch ρ' ds aw)
    (hn : ∀ x aw', K x aw' → NextT P ops Kn Kp q nh r (ρ.put dt (sh x)) ds aw') : LinT P ops Kn Kp ((t, q, nh) :: r) ρ ds aw := by
  obtain ⟨g, fa, ca, rfl, ⟨fn, c, h2, h3, h4⟩, H⟩ := H
  exact lt_call ho hd (fun ρ' hρ => by
    obtain ⟨g1, g2, g3⟩ := h ρ' hρ
    exact ⟨g1, opc_dyn (fa := fa) (ca := ca) hop hz hok g2 h2 h3 h4 (by rw [g3])⟩) H hE hn
end
/-- what was read is read again -/
def again1 (aw : AW) (p v : Value) : Prop := ∀ b i, p = .pointer (some ⟨b, i, none⟩) → aw.get b i = some v
def againN (aw : AW) (n : Nat) (p : Value) (cs : List Value) : Prop := ∀ b i, p = .pointer (some ⟨b, i, none⟩) → aw.getN b i n = some cs
def againS (aw : AW) (v : Value) (s : ByteArray) : Prop := ∀ (l : List UInt8) (n : Nat), (∃ q m c, v = .slice q m c) → s = (⟨l.toArray⟩ : ByteArray) → Src aw 1 v n (bytesV l)
end Go.Am
