/- Shallow code: one word for each operation that touches memory or may fail, and how it stands for the operation. -/
import Derived.Test.YtfoceofohlpafaaDoorAm9
import Derived.KernelRfl
set_option linter.unusedSimpArgs false
set_option linter.unusedVariables false
set_option linter.unusedSectionVars false
namespace Go.Am
open Go Go.RowKit
variable [SymE]

def ldI (k : IntKind) (aw : AW) (p : Value) (K : Int → Prop) : Prop := ∃ b i n, p = .pointer (some ⟨b, i, none⟩) ∧ aw.get b i = some (.int k n) ∧ K n
def ldB (aw : AW) (p : Value) (K : Bool → Prop) : Prop := ∃ b i n, p = .pointer (some ⟨b, i, none⟩) ∧ aw.get b i = some (.bool n) ∧ K n
def ldS (aw : AW) (p : Value) (K : ByteArray → Prop) : Prop := ∃ b i n, p = .pointer (some ⟨b, i, none⟩) ∧ aw.get b i = some (.string n) ∧ K n
def ldV (aw : AW) (p : Value) (K : Value → Prop) : Prop := ∃ b i n, p = .pointer (some ⟨b, i, none⟩) ∧ aw.get b i = some n ∧ K n
/-- several cells -/
def ldN (n : Nat) (aw : AW) (p : Value) (K : List Value → Prop) : Prop := ∃ b i cs, p = .pointer (some ⟨b, i, none⟩) ∧ aw.getN b i n = some cs ∧ K cs
def st (aw : AW) (p : Value) (cs : List Value) (K : AW → Prop) : Prop := ∃ b i aw', p = .pointer (some ⟨b, i, none⟩) ∧ aw.wr b i cs.length ∧ cs.all one = true ∧ aw' = aw.setN b i cs ∧ K aw'
/-- new memory -/
def alc (aw : AW) (cs : List Value) (t esz : Nat) (K : Value → AW → Prop) : Prop := ∃ p aw', p = .pointer (some ⟨aw.next, 0, none⟩) ∧ aw' = aw.alloc cs t esz ∧ K p aw'
def alcS (aw : AW) (cs : List Value) (t esz n : Nat) (K : Value → AW → Prop) : Prop := ∃ p aw', p = .slice (some ⟨aw.next, 0, none⟩) n n ∧ aw' = aw.alloc cs t esz ∧ K p aw'
/-- a text as bytes -/
def toB (aw : AW) (a : ByteArray) (t : Nat) (K : Value → AW → Prop) : Prop := ∃ p aw', p = .slice (some ⟨aw.next, 0, none⟩) a.size UNK ∧ aw' = aw.alloc (bytesV a.data.toList) t 1 ∧ K p aw'
def nck (p : Value) (K : Prop) : Prop := (∃ b i, p = .pointer (some ⟨b, i, none⟩)) ∧ K
def nckF (p : Value) (K : Prop) : Prop := (∃ g fa ca, p = .func (.func g) fa ca) ∧ K
/-- the address of an element -/
def ixS (v : Value) (j : Int) (size : Nat) (K : Value → Prop) : Prop := ∃ b i l c p, v = .slice (some ⟨b, i, none⟩) l c ∧ 0 ≤ j ∧ j < l ∧ p = .pointer (some ⟨b, i + j.toNat * size, none⟩) ∧ K p
def ixA (v : Value) (len : Nat) (j : Int) (size : Nat) (K : Value → Prop) : Prop := ∃ b i p, v = .pointer (some ⟨b, i, none⟩) ∧ 0 ≤ j ∧ j < len ∧ p = .pointer (some ⟨b, i + j.toNat * size, none⟩) ∧ K p
def fldA (v : Value) (off : Nat) (K : Value → Prop) : Prop := ∃ b i p, v = .pointer (some ⟨b, i, none⟩) ∧ p = .pointer (some ⟨b, i + off, none⟩) ∧ K p
/-- a byte of a text -/
def bt (a : ByteArray) (j : Int) : Int := ((a.data.toList.getD j.toNat 0).toNat : Int)
def chr (a : ByteArray) (j : Int) (K : Int → Prop) : Prop := ∃ c, 0 ≤ j ∧ j < a.size ∧ c = bt a j ∧ K c
/-- an element of an array by value -/
def elV (l : Nat) (cs : List Value) (j : Int) (K : Value → Prop) : Prop := cs.length ≤ l ∧ 0 ≤ j ∧ ∃ v, cs[j.toNat]? = some v ∧ K v
def elS (l : Nat) (cs : List Value) (j : Int) (K : ByteArray → Prop) : Prop := cs.length ≤ l ∧ 0 ≤ j ∧ ∃ v, cs[j.toNat]? = some (.string v) ∧ K v
def elI (l : Nat) (k : IntKind) (cs : List Value) (j : Int) (K : Int → Prop) : Prop := cs.length ≤ l ∧ 0 ≤ j ∧ ∃ v, cs[j.toNat]? = some (.int k v) ∧ K v
/-- a part of a text -/
def cutS (a : ByteArray) (lo hi : Int) (K : ByteArray → Prop) : Prop := ∃ s, 0 ≤ lo ∧ lo ≤ hi ∧ hi ≤ a.size ∧ s = a.extract lo.toNat hi.toNat ∧ K s
/-- a part of a slice; 'top': up to its end -/
inductive Cut (aw : AW) (size : Nat) : Value → Int → Int → Value → Prop
  | nil : Cut aw size (.slice none 0 0) 0 0 (.slice none 0 0)
  | some {b i l c lo hi : Nat} (h1 : lo ≤ hi) (h2 : hi ≤ if c < UNK then c else l) (h3 : UNK ≤ c → ∃ B, aw.m b = some B ∧ B.esz = size) :
      Cut aw size (.slice (some ⟨b, i, none⟩) l c) lo hi (.slice (some ⟨b, i + lo * size, none⟩) (hi - lo) (capOf c lo))
def lenV : Value → Int
  | .slice _ l _ => l
  | _ => 0
def cutV (aw : AW) (size : Nat) (v : Value) (lo hi : Int) (K : Value → Prop) : Prop := ∃ v', Cut aw size v lo hi v' ∧ K v'
inductive Cut3 (size : Nat) : Value → Int → Int → Int → Value → Prop
  | nil : Cut3 size (.slice none 0 0) 0 0 0 (.slice none 0 0)
  | some {b i l c lo hi mx : Nat} (h1 : lo ≤ hi) (h2 : hi ≤ mx) (h3 : mx ≤ if c < UNK then c else l) (h4 : mx < UNK) :
      Cut3 size (.slice (some ⟨b, i, none⟩) l c) lo hi mx (.slice (some ⟨b, i + lo * size, none⟩) (hi - lo) (mx - lo))
def cut3V (size : Nat) (v : Value) (lo hi mx : Int) (K : Value → Prop) : Prop := ∃ v', Cut3 size v lo hi mx v' ∧ K v'
def cutA (v : Value) (len size : Nat) (lo hi : Int) (K : Value → Prop) : Prop := ∃ b i v', v = .pointer (some ⟨b, i, none⟩) ∧ 0 ≤ lo ∧ lo ≤ hi ∧ hi ≤ len ∧
  v' = .slice (some ⟨b, i + lo.toNat * size, none⟩) (hi.toNat - lo.toNat) (len - lo.toNat) ∧ K v'
/-- the length of a slice -/
def slen (v : Value) (K : Int → Prop) : Prop := ∃ q l c n, v = .slice q l c ∧ n = (l : Int) ∧ K n
/-- append -/
inductive App (aw : AW) (el size bytes : Nat) : Value → Value → Value → AW → Prop
  | none {q : Option Addr} {l c : Nat} {xv : Value} {cs : List Value} (h : Src aw size xv 0 cs) : App aw el size bytes (.slice q l c) xv (.slice q l c) aw
  | fits {b i l c n : Nat} {xv : Value} {cs : List Value} (h : Src aw size xv n cs) (h0 : 0 < n) (hc : c < UNK) (hf : l + n ≤ c) (ho : cs.all one = true) (hw : aw.wr b (i + l * size) cs.length) :
      App aw el size bytes (.slice (some ⟨b, i, none⟩) l c) xv (.slice (some ⟨b, i, none⟩) (l + n) c) (aw.setN b (i + l * size) cs)
  | grows {q : Option Addr} {l c n : Nat} {xv : Value} {os cs : List Value} (h0 : Src aw size (.slice q l c) l os) (h : Src aw size xv n cs) (hc : c < UNK) (hf : c < l + n) (hb : (2 * (l + n) + 768) * bytes ≤ 2 ^ 48) :
      App aw el size bytes (.slice q l c) xv (.slice (some ⟨aw.next, 0, none⟩) (l + n) UNK) (aw.alloc (os ++ cs) el size)
  | moves {b l c n : Nat} {xv : Value} {os cs : List Value} {B : Blk} (h0 : aw.getN b 0 (l * size) = some os) (h : Src aw size xv n cs) (hc : UNK ≤ c) (hB : aw.m b = some B) (hrw : B.rw = true) (hfz : B.fz = 0)
      (he : B.elem = el) (hs : B.esz = size) (ho : cs.all one = true) (hb : (2 * (l + n) + 768) * bytes ≤ 2 ^ 48) :
      App aw el size bytes (.slice (some ⟨b, 0, none⟩) l c) xv (.slice (some ⟨aw.next, 0, none⟩) (l + n) UNK) ((aw.kill b).alloc (os ++ cs) el size)
def app (aw : AW) (el size bytes : Nat) (sv xv : Value) (K : Value → AW → Prop) : Prop := ∃ v aw', App aw el size bytes sv xv v aw' ∧ K v aw'
/-- copy -/
def cpy (aw : AW) (size : Nat) (dv sv : Value) (K : Int → AW → Prop) : Prop :=
  ∃ b i l c n cs m aw', dv = .slice (some ⟨b, i, none⟩) l c ∧ Src aw size sv n cs ∧ ((cs.take (min n l * size)).all one) = true ∧ aw.wr b i (cs.take (min n l * size)).length ∧ m = ((min n l : Nat) : Int) ∧ aw' = aw.setN b i (cs.take (min n l * size)) ∧ K m aw'
/-- make -/
def mk (aw : AW) (el size bytes : Nat) (z : List Value) (m c : Int) (K : Value → AW → Prop) : Prop :=
  ∃ p aw', 0 ≤ m ∧ m ≤ c ∧ bytes * c.toNat ≤ 2 ^ 47 ∧ c < 2 ^ 60 ∧ p = .slice (some ⟨aw.next, 0, none⟩) m.toNat c.toNat ∧ aw' = aw.alloc (zeros z c.toNat) el size ∧ K p aw'
/-- bytes as a text -/
def toS (aw : AW) (v : Value) (K : ByteArray → Prop) : Prop := ∃ l n s, Src aw 1 v n (bytesV l) ∧ (∃ q m c, v = .slice q m c) ∧ s = (⟨l.toArray⟩ : ByteArray) ∧ K s
/-- against nil -/
def nilB (d : TypeDesc) (u c : Value) (K : Bool → Prop) : Prop := ∃ b, nilFits d u c = true ∧ b = (isNil u).getD false ∧ K b
/-- a test -/
def cnd (b : Bool) (A B : Prop) : Prop := (b = true → A) ∧ (b = false → B)
theorem cnd_t {b : Bool} {A B : Prop} (h : cnd b A B) (hb : b = true) : A := h.1 hb
theorem cnd_f {b : Bool} {A B : Prop} (h : cnd b A B) (hb : b = false) : B := h.2 hb
/-- a type's test, with 'ok' -/
def tyQ (d : Nat) (u : Value) (Ky : Value → Prop) (Kn : Prop) : Prop := (∃ v, u = .iface d v ∧ Ky v) ∨ (((∃ q v, u = .iface q v ∧ q ≠ d) ∨ u = .nilIface) ∧ Kn)
def tyA (d : Nat) (u : Value) (Ky : Value → Prop) : Prop := ∃ v, u = .iface d v ∧ Ky v

/-- how a call ends -/
def Ends {α : Type} (sh : α → Value) (K : α → AW → Prop) (E : List PanicEntry → AW → Prop) : AEnd → AW → Prop
  | .returned v, aw => ∃ r, v = sh r ∧ K r aw
  | .panicked ch, aw => E ch aw
def CallP {α : Type} (P : Program) (f : FuncId) (args : List Value) (aw : AW) (sh : α → Value) (K : α → AW → Prop) (E : List PanicEntry → AW → Prop) : Prop := ACalls P f args aw (Ends sh K E)
theorem CallP.mono {α : Type} {P : Program} {f : FuncId} {args : List Value} {aw : AW} {sh : α → Value} {K K' : α → AW → Prop} {E E' : List PanicEntry → AW → Prop} (h : CallP P f args aw sh K E)
    (hk : ∀ r aw, K r aw → K' r aw) (he : ∀ ch aw, E ch aw → E' ch aw) : CallP P f args aw sh K' E' :=
  ACalls.mono h fun e aw h => match e, h with
    | .returned _, ⟨r, h1, h2⟩ => ⟨r, h1, hk _ _ h2⟩
    | .panicked _, h => he _ _ h
/-- a function that can be called -/
def IsFn (P : Program) (g : FuncId) : Prop := ∃ fn c, P.funcs[g]? = some fn ∧ (fn.name == "runtime.NumGoroutine") = false ∧ fn.body = some c
def CallV {α : Type} (P : Program) (z : Value) (args : List Value) (aw : AW) (sh : α → Value) (K : α → AW → Prop) (E : List PanicEntry → AW → Prop) : Prop :=
  ∃ g fa ca, z = .func (.func g) fa ca ∧ IsFn P g ∧ CallP P g (fa.toList ++ args ++ ca.toList) aw sh K E

section
variable {P : Program} {N : Nat} {ops : Array Oper} {i : Nat} {rest : List Nat} {ρ : Env} {ds : List Deferred} {aw aw' : AW}
  {Kn : Env → List Deferred → AW → Prop} {Kp : List PanicEntry → Env → List Deferred → AW → Prop} {o : Oper}
  {x y z : Operand} {t el sT xT xt yt : TypeId} {d dx : TypeDesc} {v xv p : Value} {k : IntKind} {at' : Array TypeId} {size bytes : Nat}

theorem lk {dt : Option Tmp} (hN : dstsOk N ops = true) (ho : ops[i]? = some o) (hd : o.dst = dt) (hg : wants ops o ρ true) (hv : OpV P o ρ aw v aw')
    (hk : AOps P N ops rest (ρ.put dt v) ds aw' Kn Kp) : AOps P N ops (i :: rest) ρ ds aw Kn Kp := aops_val hN ho hg hv (hd ▸ hk)
theorem lk_skip {dt : Option Tmp} (hN : dstsOk N ops = true) (ho : ops[i]? = some o) (hd : o.dst = dt) (hg : wants ops o ρ false)
    (hk : AOps P N ops rest (ρ.put dt undef) ds aw Kn Kp) : AOps P N ops (i :: rest) ρ ds aw Kn Kp := aops_skip hN ho hg (hd ▸ hk)

theorem ov_ldI {b j : Nat} {n : Int} (hop : o.op = .load t x) (hu : P.underlying t = some (.int k)) (hx : okOpd P.globals.size x = true) (h1 : ρ.eval x = p) (hp : p = .pointer (some ⟨b, j, none⟩)) (hg : aw.get b j = some (.int k n)) :
    OpV P o ρ aw (.int k n) aw := opv_load1 hop hu rfl hx (h1.trans hp) hg
theorem ov_ldB {b j : Nat} {n : Bool} (hop : o.op = .load t x) (hu : P.underlying t = some .bool) (hx : okOpd P.globals.size x = true) (h1 : ρ.eval x = p) (hp : p = .pointer (some ⟨b, j, none⟩)) (hg : aw.get b j = some (.bool n)) :
    OpV P o ρ aw (.bool n) aw := opv_load1 hop hu rfl hx (h1.trans hp) hg
theorem ov_ldS {b j : Nat} {n : ByteArray} (hop : o.op = .load t x) (hu : P.underlying t = some .string) (hx : okOpd P.globals.size x = true) (h1 : ρ.eval x = p) (hp : p = .pointer (some ⟨b, j, none⟩)) (hg : aw.get b j = some (.string n)) :
    OpV P o ρ aw (.string n) aw := opv_load1 hop hu rfl hx (h1.trans hp) hg
theorem ov_ldV {b j : Nat} (hop : o.op = .load t x) (hu : P.underlying t = some d) (ha : aggT d = false) (hx : okOpd P.globals.size x = true) (h1 : ρ.eval x = p) (hp : p = .pointer (some ⟨b, j, none⟩)) (hg : aw.get b j = some v) :
    OpV P o ρ aw v aw := opv_load1 hop hu ha hx (h1.trans hp) hg
theorem ov_ldN {b j n : Nat} {cs : List Value} (hop : o.op = .load t x) (hu : P.underlying t = some d) (ha : aggT d = true) (hn : (P.info? t).map (·.size) = some n) (hx : okOpd P.globals.size x = true) (h1 : ρ.eval x = p) (hp : p = .pointer (some ⟨b, j, none⟩)) (hg : aw.getN b j n = some cs) : OpV P o ρ aw (.agg cs.toArray) aw := opv_loadN hop hu ha hn hx (h1.trans hp) hg
theorem ov_st {b j : Nat} {cs : List Value} (hop : o.op = .store t x y) (hx : okOpd P.globals.size x = true) (hy : okOpd P.globals.size y = true) (h1 : ρ.eval x = p) (h2 : ρ.eval y = xv) (hcs : xv.cells.toList = cs) (hn : (P.info? t).map (·.size) = some cs.length) (hp : p = .pointer (some ⟨b, j, none⟩)) (hw : aw.wr b j cs.length) (ho : cs.all one = true) (ha : aw' = aw.setN b j cs) : OpV P o ρ aw undef aw' := by
  subst ha; subst hcs; exact opv_store hop hx hy (h1.trans hp) h2 hn ho hw
theorem ov_nck (hop : o.op = .nilCheck x) (hx : okOpd P.globals.size x = true) (h1 : ρ.eval x = p) (hp : ∃ b i, p = .pointer (some ⟨b, i, none⟩)) : OpV P o ρ aw p aw := by
  obtain ⟨b, i, rfl⟩ := hp; exact opv_nilCheckP hop hx h1
theorem ov_nckF (hop : o.op = .nilCheck x) (hx : okOpd P.globals.size x = true) (h1 : ρ.eval x = p) (hp : ∃ g fa ca, p = .func (.func g) fa ca) : OpV P o ρ aw p aw := by
  obtain ⟨b, i, c, rfl⟩ := hp; exact opv_nilCheckF hop hx h1
theorem ov_ixS {b i' l c : Nat} {j : Int} (hop : o.op = .indexAddr t x y) (hx : okOpd P.globals.size x = true) (hy : okOpd P.globals.size y = true) (hu : P.underlying t = some (.slice el)) (hsz : (P.info? el).map (·.size) = some size) (h1 : ρ.eval x = p) (h2 : ρ.eval y = .int k j) (hp : p = .slice (some ⟨b, i', none⟩) l c) (h0 : 0 ≤ j) (hj : j < l) (hv : v = .pointer (some ⟨b, i' + j.toNat * size, none⟩)) : OpV P o ρ aw v aw :=
  hv ▸ opv_indexAddr hop hx hy hu hsz (h1.trans hp) h2 h0 hj
theorem ov_ixA {b i' l : Nat} {j : Int} (hop : o.op = .indexAddr t x y) (hx : okOpd P.globals.size x = true) (hy : okOpd P.globals.size y = true) (hu : P.underlying t = some (.array l el)) (hsz : (P.info? el).map (·.size) = some size) (h1 : ρ.eval x = p) (h2 : ρ.eval y = .int k j) (hp : p = .pointer (some ⟨b, i', none⟩)) (h0 : 0 ≤ j) (hj : j < l) (hv : v = .pointer (some ⟨b, i' + j.toNat * size, none⟩)) : OpV P o ρ aw v aw :=
  hv ▸ opv_indexAddrA hop hx hy hu hsz (h1.trans hp) h2 h0 hj
theorem ov_fldA {b i' n : Nat} {fs : Array Field} {fd : Field} {off : Nat} (hop : o.op = .fieldAddr t x n) (hx : okOpd P.globals.size x = true) (hu : P.underlying t = some (.struct fs)) (hf : fs[n]? = some fd) (hsz : (P.info? fd.type).map (·.size) = some size) (h0 : 0 < size) (h1 : ρ.eval x = p) (hp : p = .pointer (some ⟨b, i', none⟩)) (hoff : fd.offset = off) (hv : v = .pointer (some ⟨b, i' + off, none⟩)) : OpV P o ρ aw v aw := by
  subst hv; subst hoff; exact opv_fieldAddr hop hx hu hf hsz h0 (h1.trans hp)
theorem ov_chr {a : ByteArray} {j : Int} {c : Int} (hop : o.op = .index t x y) (hx : okOpd P.globals.size x = true) (hy : okOpd P.globals.size y = true) (hu : P.underlying t = some .string) (h1 : ρ.eval x = .string a) (h2 : ρ.eval y = .int k j) (h0 : 0 ≤ j) (hj : j < a.size) (hc : c = bt a j) : OpV P o ρ aw (.int .u8 c) aw := by
  subst hc
  have hlt : j.toNat < a.data.toList.length := by rw [Array.length_toList]; show j.toNat < a.size; omega
  have hu' : a[j.toNat]? = some (a.data.toList.getD j.toNat 0) := by
    have h3 : j.toNat < a.size := by omega
    rw [getElem?_pos a j.toNat h3]
    have h4 : a[j.toNat] = a.data[j.toNat]'(by exact h3) := rfl
    rw [h4]
    congr 1
    simp only [List.getD_eq_getElem?_getD, List.getElem?_eq_getElem hlt, Option.getD_some, Array.getElem_toList]
  exact opv_indexS hop hx hy hu h1 h2 h0 hu'
theorem ov_el {l : Nat} {j : Int} {cs : List Value} (hop : o.op = .index t x y) (hx : okOpd P.globals.size x = true) (hy : okOpd P.globals.size y = true) (hu : P.underlying t = some (.array l el)) (hd : P.underlying el = some d) (ha : aggT d = false) (hsz : (P.info? el).map (·.size) = some 1) (h1 : ρ.eval x = .agg cs.toArray) (h2 : ρ.eval y = .int k j) (hl : cs.length ≤ l) (h0 : 0 ≤ j) (hv : cs[j.toNat]? = some v) : OpV P o ρ aw v aw :=
  opv_indexA (size := 1) hop hx hy hu hd ha hsz h1 h2 h0 (by have := (List.getElem?_eq_some_iff.1 hv).1; omega) (by simpa using hv)
/-- a bound of a part: what it says -/
def BndI (ρ : Env) (G : Nat) (d : Int) : Option Operand → Int → Prop
  | none, n => n = d
  | some x, n => okOpd G x = true ∧ ∃ k, ρ.eval x = .int k n
theorem bndN (ρ : Env) (G : Nat) (d : Int) : BndI ρ G d none d := rfl
theorem bndS {G : Nat} {d n : Int} {x : Operand} {k : IntKind} (h : ρ.eval x = .int k n) (hok : okOpd G x = true := by rfl) : BndI ρ G d (some x) n := ⟨hok, k, h⟩
theorem BndI.nat {G : Nat} {d n : Int} {q : Option Operand} (h : BndI ρ G d q n) (hd : 0 ≤ d) (hn : 0 ≤ n) : Bnd ρ G d.toNat q n.toNat := by
  cases q with
  | none => simp only [BndI] at h; subst h; rfl
  | some x => obtain ⟨h1, k, h2⟩ := h; exact ⟨h1, k, by rw [h2]; congr 1; omega⟩
theorem ov_cutS {a : ByteArray} {lo hi : Int} {xl xh : Option Operand} {s : ByteArray} (hop : o.op = .slice t x xl xh none) (hx : okOpd P.globals.size x = true) (hu : P.underlying t = some .string) (h1 : ρ.eval x = .string a) (hl : BndI ρ P.globals.size 0 xl lo) (hh : BndI ρ P.globals.size a.size xh hi) (h2 : 0 ≤ lo) (h3 : lo ≤ hi) (h4 : hi ≤ a.size) (hs : s = a.extract lo.toNat hi.toNat) : OpV P o ρ aw (.string s) aw :=
  hs ▸ opv_sliceStr hop hx hu h1 (hl.nat (by omega) h2) (by simpa using hh.nat (by omega) (by omega)) (by omega) (by omega)
theorem ov_cutV {lo hi : Int} {xl xh : Option Operand} {v' : Value} (hop : o.op = .slice t x xl xh none) (hx : okOpd P.globals.size x = true) (hu : P.underlying t = some (.slice el)) (hsz : (P.info? el).map (·.size) = some size) (h1 : ρ.eval x = v) (hl : BndI ρ P.globals.size 0 xl lo) (hh : BndI ρ P.globals.size (lenV v) xh hi) (hc : Cut aw size v lo hi v') : OpV P o ρ aw v' aw := by
  cases hc with
  | nil => exact opv_sliceNil hop hx hu hsz h1 (by simpa using hl.nat (Int.le_refl _) (Int.le_refl _)) (by simpa [lenV] using hh.nat (by simp [lenV]) (Int.le_refl _))
  | some g1 g2 g3 => exact opv_slice hop hx hu hsz h1 (by simpa using hl.nat (Int.le_refl _) (by omega)) (by simpa [lenV] using hh.nat (by simp [lenV]) (by omega)) g1 g2 g3
theorem ov_cut3 {lo hi mx : Int} {xl : Option Operand} {xh xm : Operand} {v' : Value} (hop : o.op = .slice t x xl (some xh) (some xm)) (hx : okOpd P.globals.size x = true) (hu : P.underlying t = some (.slice el)) (hsz : (P.info? el).map (·.size) = some size) (h1 : ρ.eval x = v) (hl : BndI ρ P.globals.size 0 xl lo) (hh : BndI ρ P.globals.size 0 (some xh) hi) (hm : BndI ρ P.globals.size 0 (some xm) mx) (hc : Cut3 size v lo hi mx v') : OpV P o ρ aw v' aw := by
  cases hc with
  | nil => exact opv_slice3Nil hop hx hu hsz h1 (by simpa using hl.nat (Int.le_refl _) (Int.le_refl _)) (by simpa using hh.nat (Int.le_refl _) (Int.le_refl _)) (by simpa using hm.nat (Int.le_refl _) (Int.le_refl _))
  | some g1 g2 g3 g4 => exact opv_slice3 hop hx hu hsz h1 (by simpa using hl.nat (Int.le_refl _) (by omega)) (by simpa using hh.nat (Int.le_refl _) (by omega)) (by simpa using hm.nat (Int.le_refl _) (by omega)) g1 g2 g3 g4
theorem ov_cutA {b i' len : Nat} {lo hi : Int} {xl xh : Option Operand} (hop : o.op = .slice t x xl xh none) (hx : okOpd P.globals.size x = true) (hu : P.underlying t = some (.array len el)) (hsz : (P.info? el).map (·.size) = some size) (h1 : ρ.eval x = p) (hp : p = .pointer (some ⟨b, i', none⟩)) (hl : BndI ρ P.globals.size 0 xl lo) (hh : BndI ρ P.globals.size len xh hi) (h2 : 0 ≤ lo) (h3 : lo ≤ hi) (h4 : hi ≤ len) (h5 : len < UNK) (hv : v = .slice (some ⟨b, i' + lo.toNat * size, none⟩) (hi.toNat - lo.toNat) (len - lo.toNat)) : OpV P o ρ aw v aw :=
  hv ▸ opv_sliceArr hop hx hu hsz (h1.trans hp) (hl.nat (by omega) h2) (by simpa using hh.nat (by omega) (by omega)) (by omega) (by omega) h5
theorem ov_len {q : Option Addr} {l c : Nat} {T : TypeId} {n : Int} (hop : o.op = .call { callee := .builtin .len, args := #[x], argTypes := at' }) (hat : at'[0]? = some T) (hx : okOpd P.globals.size x = true) (hu : P.underlying T = some (.slice el)) (h1 : ρ.eval x = v) (hv : v = .slice q l c) (hn : n = (l : Int)) : OpV P o ρ aw (.int .i64 n) aw := hn ▸ opv_len hop hat hx hu (h1.trans hv)
theorem ov_app {sv v' : Value} {zz : Value} (hop : o.op = .call { callee := .builtin .append, args := #[x, y], argTypes := at' }) (hat : at' = #[sT, xT]) (hx : okOpd P.globals.size x = true) (hy : okOpd P.globals.size y = true) (hu : P.underlying sT = some (.slice el)) (hsz : (P.info? el).map (·.size) = some size) (hby : (P.info? el).map (·.bytes) = some bytes) (hxu : P.underlying xT = some dx) (hni : notInt dx = true) (hz0 : (P.info? el).bind (·.zero) = some zz) (hzs : zz.cells.size = size) (hs0 : 0 < size) (hb0 : 0 < bytes) (h1 : ρ.eval x = sv) (h2 : ρ.eval y = xv) (ha : App aw el size bytes sv xv v' aw') : OpV P o ρ aw v' aw' := by
  cases ha with
  | none h => exact opv_append0 hop hat hx hy hu hsz hxu hni h1 h2 h
  | fits h h0 hc hf ho hw => exact opv_appendX hop hat hx hy hu hsz hxu hni h1 h2 h hc hf h0 ho hw
  | grows h0 h hc hf hb => exact opv_appendG hop hat hx hy hu hsz hby hxu hni hz0 hzs hb0 h1 h2 h0 ⟨_, rfl⟩ h hc hf hs0 hb
  | moves h0 h hc hB hrw hfz he hs ho hb => exact opv_appendU hop hat hx hy hu hsz hby hxu hni hz0 hzs hb0 h1 h2 h0 h hc hB hrw hfz he hs ho rfl hs0 hb
theorem ov_cpy {b i' l c n : Nat} {cs : List Value} {m : Int} (hop : o.op = .call { callee := .builtin .copy, args := #[x, y], argTypes := at' }) (hat : at' = #[sT, xT]) (hx : okOpd P.globals.size x = true) (hy : okOpd P.globals.size y = true) (hu : P.underlying sT = some (.slice el)) (hsz : (P.info? el).map (·.size) = some size) (h1 : ρ.eval x = p) (hp : p = .slice (some ⟨b, i', none⟩) l c) (h2 : ρ.eval y = xv) (hs : Src aw size xv n cs) (ho : (cs.take (min n l * size)).all one = true) (hw : aw.wr b i' (cs.take (min n l * size)).length) (hm : m = ((min n l : Nat) : Int)) (ha : aw' = aw.setN b i' (cs.take (min n l * size))) : OpV P o ρ aw (.int .i64 m) aw' :=
  hm ▸ ha ▸ opv_copy hop hat hx hy hu hsz (h1.trans hp) h2 hs rfl ho hw
theorem ov_mk {k' : IntKind} {m c : Int} {zz : Value} {zl : List Value} (hop : o.op = .makeSlice t x y) (hx : okOpd P.globals.size x = true) (hy : okOpd P.globals.size y = true)
    (hu : P.underlying t = some (.slice el)) (hsz : (P.info? el).map (·.size) = some size) (hby : (P.info? el).map (·.bytes) = some bytes) (hz0 : (P.info? el).bind (·.zero) = some zz) (hzs : zz.cells.size = size) (hs0 : 0 < size) (hp : plains zz.cells.toList = true) (hzl : zz.cells.toList = zl)
    (h1 : ρ.eval x = .int k m) (h2 : ρ.eval y = .int k' c) (h0 : 0 ≤ m) (hm : m ≤ c) (hb : bytes * c.toNat ≤ 2 ^ 47) (hc : c < 2 ^ 60) (hv : v = .slice (some ⟨aw.next, 0, none⟩) m.toNat c.toNat) (ha : aw' = aw.alloc (zeros zl c.toNat) el size) :
    OpV P o ρ aw v aw' := by
  subst hzl; subst hv; subst ha
  exact opv_makeSlice hop hx hy hu hsz hby hz0 hzs hs0 hp (by rw [h1]; congr 1; omega) (by rw [h2]; congr 1; omega) (by omega) hb (by omega)
theorem ov_alloc {zz : Value} {zl : List Value} (hop : o.op = .alloc t) (hz : (P.info? t).bind (·.zero) = some zz) (hp : plains zz.cells.toList = true) (hzl : zz.cells.toList = zl) (hv : v = .pointer (some ⟨aw.next, 0, none⟩)) (ha : aw' = aw.alloc zl t 0) :
    OpV P o ρ aw v aw' := by subst hzl; subst hv; subst ha; exact opv_alloc hop hz hp
theorem ov_box {cs : List Value} (hop : o.op = .box t x) (hx : okOpd P.globals.size x = true) (h1 : ρ.eval x = xv) (hcs : xv.cells.toList = cs) (hv : v = .pointer (some ⟨aw.next, 0, none⟩)) (ha : aw' = aw.alloc cs t 0) :
    OpV P o ρ aw v aw' := by subst hcs; subst hv; subst ha; exact opv_box hop hx h1
theorem ov_toB {src dst e : TypeId} {a : ByteArray} (hop : o.op = .convert src dst x) (hx : okOpd P.globals.size x = true) (hs : P.underlying src = some d) (hd : P.underlying dst = some (.slice e)) (he : P.underlying e = some (.int .u8)) (h1 : ρ.eval x = .string a) (hv : v = .slice (some ⟨aw.next, 0, none⟩) a.size UNK) (ha : aw' = aw.alloc (bytesV a.data.toList) e 1) : OpV P o ρ aw v aw' := by subst hv; subst ha; exact opv_toBytes hop hx hs hd he h1
theorem ov_toS {src dst e : TypeId} {l : List UInt8} {n : Nat} {s : ByteArray} (hop : o.op = .convert src dst x) (hx : okOpd P.globals.size x = true) (hs : P.underlying src = some (.slice e)) (hd : P.underlying dst = some .string) (he : P.underlying e = some (.int .u8)) (h1 : ρ.eval x = xv) (hl : Src aw 1 xv n (bytesV l)) (hsl : ∃ q m c, xv = .slice q m c) (hv : s = (⟨l.toArray⟩ : ByteArray)) : OpV P o ρ aw (.string s) aw := by subst hv; exact opv_toStr hop hx hs hd he h1 hl hsl
theorem ov_eqNil {u cv : Value} {q : Bool} (hop : o.op = .binOp .eql xt x (.const cv) yt) (hx : okOpd P.globals.size x = true) (hu : P.underlying xt = some d) (h1 : ρ.eval x = u) (hfit : nilFits d u cv = true) (hq : q = (isNil u).getD false) : OpV P o ρ aw (.bool q) aw := hq ▸ opv_eqNil hop hx hu h1 hfit
theorem ov_neNil {u cv : Value} {q : Bool} (hop : o.op = .binOp .neq xt x (.const cv) yt) (hx : okOpd P.globals.size x = true) (hu : P.underlying xt = some d) (h1 : ρ.eval x = u) (hfit : nilFits d u cv = true) (hq : q = (isNil u).getD false) : OpV P o ρ aw (.bool (!q)) aw := hq ▸ opv_neNil hop hx hu h1 hfit
theorem ov_pickT {c : Operand} {b : Bool} (hop : o.op = .pick c x y) (hc : okOpd P.globals.size c = true) (hx : okOpd P.globals.size x = true) (hy : okOpd P.globals.size y = true) (h : ρ.eval c = .bool b) (hb : b = true) (hv : ρ.eval x = v) : OpV P o ρ aw v aw := by
  subst hb; exact opv_pick hop hc hx hy h (by simpa using hv)
theorem ov_pickF {c : Operand} {b : Bool} (hop : o.op = .pick c x y) (hc : okOpd P.globals.size c = true) (hx : okOpd P.globals.size x = true) (hy : okOpd P.globals.size y = true) (h : ρ.eval c = .bool b) (hb : b = false) (hv : ρ.eval y = v) : OpV P o ρ aw v aw := by
  subst hb; exact opv_pick hop hc hx hy h (by simpa using hv)
theorem lk_call {α : Type} {sh : α → Value} {K : α → AW → Prop} {E : List PanicEntry → AW → Prop} {fid : FuncId} {args : List Value} {dt : Option Tmp} (hN : dstsOk N ops = true) (ho : ops[i]? = some o) (hd : o.dst = dt) (hg : wants ops o ρ true) (hc : OpC P o ρ fid args)
    (H : CallP P fid args aw sh K E) (hE : ∀ ch aw, E ch aw → Kp ch ρ ds aw) (hk : ∀ r aw, K r aw → AOps P N ops rest (ρ.put dt (sh r)) ds aw Kn Kp) : AOps P N ops (i :: rest) ρ ds aw Kn Kp :=
  aops_call hN ho hg hc (ACalls.mono H fun e aw h => match e, h with
    | .returned _, ⟨r, h1, h2⟩ => by subst h1; subst hd; exact hk r aw h2
    | .panicked _, h => hE _ _ h)
theorem opc_of {g : FuncId} {xs : Array Operand} {args : List Value} (hop : o.op = .call { callee := .value (.func g), args := xs, argTypes := at' })
    (hok : xs.toList.all (okOpd P.globals.size) = true) (hf : IsFn P g) (ha : xs.toList.map ρ.eval = args) : OpC P o ρ g args := by
  obtain ⟨fn, c, h1, h2, h3⟩ := hf
  exact opc_static hop hok h1 h2 h3 ha
theorem lk_callV {α : Type} {sh : α → Value} {K : α → AW → Prop} {E : List PanicEntry → AW → Prop} {xs : Array Operand} {args : List Value} {zv : Value} {dt : Option Tmp} (hN : dstsOk N ops = true) (ho : ops[i]? = some o) (hd : o.dst = dt) (hg : wants ops o ρ true)
    (hop : o.op = .call { callee := .value z, args := xs, argTypes := at' }) (hz : okOpd P.globals.size z = true) (hok : xs.toList.all (okOpd P.globals.size) = true) (h1 : ρ.eval z = zv) (ha : xs.toList.map ρ.eval = args)
    (H : CallV P zv args aw sh K E) (hE : ∀ ch aw, E ch aw → Kp ch ρ ds aw) (hk : ∀ r aw, K r aw → AOps P N ops rest (ρ.put dt (sh r)) ds aw Kn Kp) : AOps P N ops (i :: rest) ρ ds aw Kn Kp := by
  obtain ⟨g, fa, ca, rfl, ⟨fn, c, h2, h3, h4⟩, H⟩ := H
  refine lk_call hN ho hd hg (opc_dyn (fa := fa) (ca := ca) hop hz hok h1 h2 h3 h4 (by rw [ha])) H hE hk

/-! results -/
def resOne (tmps : Array Value) : ResultVar → Sem Value
  | .tmp t => pure (tmps.getD t undef)
  | .cell a t => do loadVar t (← asAddr (tmps.getD a undef))
def OneR (P : Program) (ρ : Env) (aw : AW) (r : ResultVar) (v : Value) : Prop := ∀ (base : Nat) (w0 : World) (s : Inj) (tmps : Array Value) (w : World), Rel P.globals.size base w0 s aw w →
  (∀ t, VR s (ρ t) (tmps.getD t undef)) → ∃ v', (resOne tmps r).run P w = .ok v' w ∧ VR s v v'
theorem oneT {t1 : Nat} (h : ρ t1 = v) : OneR P ρ aw (.tmp t1) v := fun _ _ _ tmps _ _ he => ⟨tmps.getD t1 undef, rfl, h ▸ he t1⟩
theorem one1 {t1 b j : Nat} (h1 : ρ t1 = p) (hp : p = .pointer (some ⟨b, j, none⟩)) (hu : P.underlying t = some d) (ha : aggT d = false) (hg : aw.get b j = some v) : OneR P ρ aw (.cell t1 t) v := by
  intro base w0 s tmps w hr he
  have e1 := he t1; rw [h1, hp] at e1
  obtain ⟨e, he', h2⟩ := e1.ptr_inv
  obtain ⟨e', v', k1, k2, k3⟩ := hr.cell hg
  rw [he'] at k1; obtain rfl := Option.some.inj k1
  refine ⟨v', ?_, k3⟩
  simp only [resOne, asAddr, h2, loadVar, Sem.run_bind, Sem.run_pure, Result.andThen_ok, run_isAgg hu]
  cases d <;> simp_all [aggT]
theorem oneN {t1 b j n : Nat} {cs : List Value} (h1 : ρ t1 = p) (hp : p = .pointer (some ⟨b, j, none⟩)) (hu : P.underlying t = some d) (ha : aggT d = true) (hn : (P.info? t).map (·.size) = some n) (hg : aw.getN b j n = some cs) :
    OneR P ρ aw (.cell t1 t) (.agg cs.toArray) := by
  intro base w0 s tmps w hr he
  have e1 := he t1; rw [h1, hp] at e1
  obtain ⟨e, he', h2⟩ := e1.ptr_inv
  obtain ⟨cs', k1, k2⟩ := hr.cellsN he' hg
  have hl : cs'.length = n := by rw [← k1.length]; exact AW.getN_length hg
  have hld := run_loadN P hl k2
  have hsz := run_sizeOf' hn w
  refine ⟨.agg cs'.toArray, ?_, .agg (by simpa using k1)⟩
  simp only [resOne, asAddr, h2, loadVar, Sem.run_bind, Sem.run_pure, Result.andThen_ok, run_isAgg hu]
  cases d <;> simp_all [aggT]
theorem results_eq (fn : Func) (tmps : Array Value) : results fn tmps = (do let vs ← fn.results.mapM (resOne tmps); pure (if h : vs.size = 1 then vs[0] else .tuple vs)) := by
  unfold results
  congr 1
theorem ares_0 {fn : Func} (h : fn.results = #[]) : ARes P fn N ρ aw (.tuple #[]) := by
  intro base w0 s tmps w hr he hs
  refine ⟨.tuple #[], ?_, .tuple .nil⟩
  simp [results_eq, h]
theorem ares_1 {fn : Func} {r1 : ResultVar} (h : fn.results = #[r1]) (h1 : OneR P ρ aw r1 v) : ARes P fn N ρ aw v := by
  intro base w0 s tmps w hr he hs
  obtain ⟨u1, k1, j1⟩ := h1 base w0 s tmps w hr he
  refine ⟨u1, ?_, j1⟩
  simp [results_eq, h, k1, Sem.run_bind]
theorem ares_2 {fn : Func} {r1 r2 : ResultVar} {v1 v2 : Value} (h : fn.results = #[r1, r2]) (h1 : OneR P ρ aw r1 v1) (h2 : OneR P ρ aw r2 v2) : ARes P fn N ρ aw (.tuple #[v1, v2]) := by
  intro base w0 s tmps w hr he hs
  obtain ⟨u1, k1, j1⟩ := h1 base w0 s tmps w hr he
  obtain ⟨u2, k2, j2⟩ := h2 base w0 s tmps w hr he
  refine ⟨.tuple #[u1, u2], ?_, .tuple (.cons j1 (.cons j2 .nil))⟩
  simp [results_eq, h, k1, k2, Sem.run_bind]
theorem ares_3 {fn : Func} {r1 r2 r3 : ResultVar} {v1 v2 v3 : Value} (h : fn.results = #[r1, r2, r3]) (h1 : OneR P ρ aw r1 v1) (h2 : OneR P ρ aw r2 v2) (h3 : OneR P ρ aw r3 v3) : ARes P fn N ρ aw (.tuple #[v1, v2, v3]) := by
  intro base w0 s tmps w hr he hs
  obtain ⟨u1, k1, j1⟩ := h1 base w0 s tmps w hr he
  obtain ⟨u2, k2, j2⟩ := h2 base w0 s tmps w hr he
  obtain ⟨u3, k3, j3⟩ := h3 base w0 s tmps w hr he
  refine ⟨.tuple #[u1, u2, u3], ?_, .tuple (.cons j1 (.cons j2 (.cons j3 .nil)))⟩
  simp [results_eq, h, k1, k2, k3, Sem.run_bind]
theorem ares_4 {fn : Func} {r1 r2 r3 r4 : ResultVar} {v1 v2 v3 v4 : Value} (h : fn.results = #[r1, r2, r3, r4]) (h1 : OneR P ρ aw r1 v1) (h2 : OneR P ρ aw r2 v2) (h3 : OneR P ρ aw r3 v3) (h4 : OneR P ρ aw r4 v4) :
    ARes P fn N ρ aw (.tuple #[v1, v2, v3, v4]) := by
  intro base w0 s tmps w hr he hs
  obtain ⟨u1, k1, j1⟩ := h1 base w0 s tmps w hr he
  obtain ⟨u2, k2, j2⟩ := h2 base w0 s tmps w hr he
  obtain ⟨u3, k3, j3⟩ := h3 base w0 s tmps w hr he
  obtain ⟨u4, k4, j4⟩ := h4 base w0 s tmps w hr he
  refine ⟨.tuple #[u1, u2, u3, u4], ?_, .tuple (.cons j1 (.cons j2 (.cons j3 (.cons j4 .nil))))⟩
  simp [results_eq, h, k1, k2, k3, k4, Sem.run_bind]

/-! guards, cells, lists of operands -/
theorem gq {u c w b : Bool} (h : u = c) (hb : b = (c == w)) : b = (u == w) := by subst h; exact hb
theorem cells_one (h : one v = true) : v.cells.toList = [v] := by
  cases v <;> simp_all [one, Value.oneCell', Value.cells]
theorem cells_all (h : [v].all one = true) : v.cells.toList = [v] := cells_one (by simpa using h)
theorem mp_cons {i : Nat} {l : List (Nat × Operand)} {m : List (Nat × Value)} (h : ρ.eval x = v) (t : l.map (fun p => (p.1, ρ.eval p.2)) = m) : ((i, x) :: l).map (fun p => (p.1, ρ.eval p.2)) = (i, v) :: m := by
  simp [h, t]
theorem ma_cons {l : List Operand} {m : List Value} (h : ρ.eval x = v) (t : l.map ρ.eval = m) : (x :: l).map ρ.eval = v :: m := by simp [h, t]
def putL (cs : List Value) (off : Nat) : List Value → List Value
  | [] => cs
  | x :: xs => putL (cs.set off x) (off + 1) xs
theorem foldl_putL : ∀ (xs : List Value) (cs : List Value) (off k : Nat), ((xs.zipIdx k).foldl (fun (q : Array Value) (p : Value × Nat) => q.setIfInBounds (off + p.2) p.1) cs.toArray) = (putL cs (off + k) xs).toArray
  | [], cs, off, k => by simp [putL]
  | x :: xs, cs, off, k => by
    simp only [List.zipIdx_cons, List.foldl_cons, putL]
    have := foldl_putL xs (cs.set (off + k) x) off (k + 1)
    simpa [Nat.add_assoc] using this
theorem fillP {place : Nat → Option (Nat × Nat)} {i off n : Nat} {xs cs : List Value} {l : List (Nat × Value)} {r : Array Value} (hc : v.cells.toList = xs) (hn : xs.length = n) (hp : place i = some (off, n)) (hb : Nat.ble (off + n) cs.length = true)
    (t : Instr.fill place (putL cs off xs).toArray l = some r) : Instr.fill place cs.toArray ((i, v) :: l) = some r := by
  have hb := Nat.le_of_ble_eq_true hb
  have hs : v.cells.size = n := by rw [← hn, ← hc]; simp
  simp only [Instr.fill, hp, hs]
  rw [if_neg (by simp; omega), ← Array.foldl_toList, Array.toList_zipIdx, hc, foldl_putL]
  exact t
theorem fillN {place : Nat → Option (Nat × Nat)} {cs : List Value} {r : List Value} (h : cs = r) : Instr.fill place cs.toArray [] = some r.toArray := by subst h; rfl
/-- a struct type: its zero, its fields' places -/
def BuildOk (P : Program) (t : TypeId) (zl : List Value) (pl : List (Nat × Nat)) : Prop := ∃ z fs, (P.info? t).bind (·.zero) = some z ∧ plains z.cells.toList = true ∧ z.cells = zl.toArray ∧ P.underlying t = some (.struct fs) ∧
  (fs.toList.all fun f => (P.info? f.type).isSome) = true ∧ placesOf P fs.toList = pl
theorem ov_bld {ps : Array (Nat × Operand)} {qs : List (Nat × Value)} {zl : List Value} {pl : List (Nat × Nat)} {r : List Value} (hop : o.op = .build t ps) (hok : (ps.toList.all fun p => okOpd P.globals.size p.2) = true) (hb : BuildOk P t zl pl) (hq : ps.toList.map (fun p => (p.1, ρ.eval p.2)) = qs) (hr : Instr.fill (fun (i : Nat) => pl[i]?) zl.toArray qs = some r.toArray) : OpV P o ρ aw (.agg r.toArray) aw := by
  obtain ⟨z, fs, h1, h2, h3, h4, h5, h6⟩ := hb
  exact opv_build hop hok h1 h2 h4 h5 h6 (by rw [h3, hq]; exact hr)
theorem range_zeros {z : Array Value} {size : Nat} (hz : z.size = size) (h0 : 0 < size) (n : Nat) : (Array.range (n * size)).map (z[· % size]!) = (zeros z.toList n).toArray := by
  apply Array.ext
  · simp [zeros_length, hz]
  · intro j h1 h2
    have hj : j < n * size := by simpa using h1
    have hm : j % size < z.size := by rw [hz]; exact Nat.mod_lt _ h0
    have := zeros_get z.toList (by simp; omega) n j (by simpa [hz] using hj)
    simp only [Array.length_toList, hz] at this
    have h3 : (zeros z.toList n)[j]? = some z[j % size] := by rw [this]; simp [hm]
    simp only [Array.getElem_map, Array.getElem_range, List.getElem_toArray]
    rw [List.getElem?_eq_some_iff] at h3
    obtain ⟨_, h3⟩ := h3
    rw [h3, getElem!_pos z _ hm]
theorem ov_bs {n : Nat} {ps : Array (Nat × Operand)} {qs : List (Nat × Value)} {zz : Value} {zl : List Value} {r : List Value} (hop : o.op = .buildSlice t n ps) (hok : (ps.toList.all fun p => okOpd P.globals.size p.2) = true) (hu : P.underlying t = some (.slice el)) (hsz : (P.info? el).map (·.size) = some size) (hz : (P.info? el).bind (·.zero) = some zz) (hp : plains zz.cells.toList = true) (hzl : zz.cells = zl.toArray) (hn : Nat.ble (n * size) (2 ^ 24) = true) (h0 : Nat.blt 0 (n * size) = true) (hzs : zl.length = size) (hq : ps.toList.map (fun p => (p.1, ρ.eval p.2)) = qs) (hr : Instr.fill (fun i => some (i * size, size)) (zeros zl n).toArray qs = some r.toArray) (hv : v = .slice (some ⟨aw.next, 0, none⟩) n n) (ha : aw' = aw.alloc r el size) : OpV P o ρ aw v aw' := by
  subst hv; subst ha
  have hs : zz.cells.size = size := by rw [hzl]; simpa using hzs
  have h0' : 0 < n * size := by simpa using h0
  have hs0 : 0 < size := Nat.pos_of_ne_zero fun h => by subst h; simp at h0'
  have := opv_buildSlice (ρ := ρ) (aw := aw) hop hok hu hsz hz hp (Nat.le_of_ble_eq_true hn) h0' hs (r := r.toArray) (by
    rw [range_zeros hs hs0, hzl, hq]; exact hr)
  simpa using this
/-- all elements, in order -/
inductive FillCells (size : Nat) : List Value → List Value → Prop
  | nil : FillCells size [] []
  | one {v : Value} {vs r : List Value} (hc : v.cells.toList = [v]) (t : FillCells size vs r) (h : 1 = size := by rfl) : FillCells size (v :: vs) (v :: r)
  | cons {v : Value} {vs r xs : List Value} (hc : v.cells.toList = xs) (hn : xs.length = size) (t : FillCells size vs r) : FillCells size (v :: vs) (xs ++ r)
def enumV : Nat → List Value → List (Nat × Value)
  | _, [] => []
  | k, v :: vs => (k, v) :: enumV (k + 1) vs
theorem putL_app : ∀ (xs a b c : List Value) (off : Nat), off = a.length → xs.length = b.length → putL (a ++ (b ++ c)) off xs = a ++ (xs ++ c)
  | [], a, b, c, off, ha, hb => by
    have : b = [] := List.length_eq_zero_iff.1 (by simpa using hb.symm)
    subst this; simp [putL]
  | x :: xs, a, [], c, off, ha, hb => by simp at hb
  | x :: xs, a, y :: b, c, off, ha, hb => by
    subst ha
    simp only [putL, List.cons_append]
    have h1 : (a ++ (y :: (b ++ c))).set a.length x = (a ++ [x]) ++ (b ++ c) := by simp
    rw [h1]
    have := putL_app xs (a ++ [x]) b c (a.length + 1) (by simp) (by simpa using hb)
    rw [this]; simp
theorem fill_cells {size : Nat} : ∀ {vs r : List Value}, FillCells size vs r → ∀ (a b : List Value) (k : Nat), a.length = k * size → b.length = vs.length * size →
    Instr.fill (fun i => some (i * size, size)) (a ++ b).toArray (enumV k vs) = some (a ++ r).toArray
  | _, _, .nil, a, b, k, ha, hb => by
    have : b = [] := List.length_eq_zero_iff.1 (by simpa using hb)
    subst this; rfl
  | _, _, .one (v := v) (vs := vs) (r := r) hc t h, a, b, k, ha, hb => by
    subst h
    cases b with
    | nil => simp at hb
    | cons y b =>
      refine fillP (xs := [v]) (n := 1) hc rfl rfl (Nat.ble_eq_true_of_le (by simp [ha])) ?_
      have h1 : putL (a ++ y :: b) (k * 1) [v] = (a ++ [v]) ++ b := by
        have := putL_app [v] a [y] b (k * 1) (by omega) rfl
        simpa using this
      rw [h1, fill_cells t (a ++ [v]) b (k + 1) (by simp [ha]) (by simpa using hb)]
      simp
  | _, _, .cons (v := v) (vs := vs) (r := r) (xs := xs) hc hn t, a, b, k, ha, hb => by
    have hlen : size ≤ b.length := by rw [hb]; simp [Nat.add_mul]
    obtain ⟨b1, b2, rfl, hb1⟩ : ∃ b1 b2, b = b1 ++ b2 ∧ b1.length = size := ⟨b.take size, b.drop size, by simp, by simp; omega⟩
    refine fillP (xs := xs) (n := size) hc hn rfl (Nat.ble_eq_true_of_le (by simp [ha]; omega)) ?_
    rw [putL_app xs a b1 b2 (k * size) ha.symm (by omega), ← List.append_assoc,
      fill_cells t (a ++ xs) b2 (k + 1) (by simp [ha, hn, Nat.add_mul]) (by simp [hb1, Nat.add_mul] at hb; omega)]
    simp
theorem ov_bsA {n : Nat} {ps : Array (Nat × Operand)} {vs : List Value} {zz : Value} {zl : List Value} {r : List Value} (hop : o.op = .buildSlice t n ps) (hok : (ps.toList.all fun p => okOpd P.globals.size p.2) = true)
    (hu : P.underlying t = some (.slice el)) (hsz : (P.info? el).map (·.size) = some size) (hz : (P.info? el).bind (·.zero) = some zz) (hp : plains zz.cells.toList = true) (hzl : zz.cells = zl.toArray)
    (hn : Nat.ble (n * size) (2 ^ 24) = true) (h0 : Nat.blt 0 (n * size) = true) (hzs : zl.length = size) (hq : ps.toList.map (fun p => (p.1, ρ.eval p.2)) = enumV 0 vs)
    (hr : FillCells size vs r) (hv : v = .slice (some ⟨aw.next, 0, none⟩) n n) (ha : aw' = aw.alloc r el size) (hl : vs.length = n := by rfl) : OpV P o ρ aw v aw' :=
  ov_bs hop hok hu hsz hz hp hzl hn h0 hzs hq (by
    have := fill_cells hr [] (zeros zl n) 0 (by simp) (by rw [zeros_length, hzs, hl])
    simpa using this) hv ha
theorem ov_mkF {fn : Fn} {a c : Array Operand} {av cv : List Value} (hop : o.op = .makeFunc fn a c) (ha : a.toList.all (okOpd P.globals.size) = true) (hc : c.toList.all (okOpd P.globals.size) = true) (h1 : a.toList.map ρ.eval = av) (h2 : c.toList.map ρ.eval = cv) : OpV P o ρ aw (.func fn av.toArray cv.toArray) aw := by
  have := opv_mkFunc (ρ := ρ) (aw := aw) hop ha hc
  have e1 : a.map ρ.eval = av.toArray := by rw [← h1]; apply Array.ext'; simp
  have e2 : c.map ρ.eval = cv.toArray := by rw [← h2]; apply Array.ext'; simp
  rwa [e1, e2] at this

/-- how a function's frame ends, without deferred calls -/
def RR {α : Type} (P : Program) (fn : Func) (N : Nat) (sh : α → Value) (Q : α → AW → Prop) (E : List PanicEntry → AW → Prop) : ADone → Env → List Deferred → AW → Prop := fun d ρ ds aw =>
  ds = [] ∧ match d with
    | .ret => ∃ v, ARes P fn N ρ aw v ∧ Ends sh Q E (.returned v) aw
    | .panic ch => Ends sh Q E (.panicked ch) aw
theorem ago_retR {α : Type} {fn : Func} {sh : α → Value} {Q : α → AW → Prop} {E : List PanicEntry → AW → Prop} {r : α} {k : List Item} (hr : ARes P fn N ρ aw v) (hv : v = sh r) (H : Q r aw) :
    AGo P N (.code .ret :: k) ρ [] aw (RR P fn N sh Q E) := ago_ret ⟨rfl, v, hr, r, hv, H⟩
theorem ago_nilR {α : Type} {fn : Func} {sh : α → Value} {Q : α → AW → Prop} {E : List PanicEntry → AW → Prop} {r : α} (hr : ARes P fn N ρ aw v) (hv : v = sh r) (H : Q r aw) :
    AGo P N [] ρ [] aw (RR P fn N sh Q E) := ago_nil ⟨rfl, v, hr, r, hv, H⟩
theorem callP_of {α : Type} {f : FuncId} {fn : Func} {c : Code} {args : List Value} {sh : α → Value} {Q : α → AW → Prop} {E : List PanicEntry → AW → Prop} (hf : P.funcs[f]? = some fn) (hb : fn.body = some c) (hn : fn.ntmps = N) (hN : args.length ≤ N)
    (h : AGo P N [.code c] (Env.init args) [] aw (RR P fn N sh Q E)) : CallP P f args aw sh Q E := by
  refine acalls_of_ago hf hb hn hN ?_
  intro base w0 s a w b cs hst
  obtain ⟨m, t', a', w', h1, s', d, ρ', ds', aw', h2, h3, h4, h5⟩ := h base w0 s a w b cs hst
  refine ⟨m, t', a', w', h1, s', d, ρ', ds', aw', h2, h3, h4, h5.1, ?_⟩
  cases d with
  | ret => exact h5.2
  | panic ch => exact h5.2
theorem lk_panic {α : Type} {k : List Item} {fn : Func} {sh : α → Value} {Q : α → AW → Prop} {E : List PanicEntry → AW → Prop} {u : TypeId} {zv : Value} (hN : dstsOk N ops = true) (ho : ops[i]? = some o) (hg : wants ops o ρ true) (hop : o.op = .panic x) (hx : okOpd P.globals.size x = true)
    (h1 : ρ.eval x = .iface u zv) (H : Kp [⟨.iface u zv, false, false⟩] ρ ds aw) : AOps P N ops (i :: rest) ρ ds aw Kn Kp := aops_panic hN ho hg (opp_panic hop hx h1) H
/-! a region in the order of the text; the end -/
theorem ago_reg {k : List Item} {R : ADone → Env → List Deferred → AW → Prop} {id : Nat} {l : List Nat} (hl : List.range ops.size = l)
    (h : AOps P N ops l ρ ds aw (fun ρ' ds' aw' => AGo P N k ρ' ds' aw' R) (fun ch ρ' ds' aw' => R (.panic ch) ρ' ds' aw')) : AGo P N (.code (.region id ops false) :: k) ρ ds aw R :=
  ago_region (n := ops.size) rfl (by rw [hl]; exact h)
theorem getN_nil {b i : Nat} : aw.getN b i 0 = some [] := rfl
theorem getN_cons {b i n : Nat} {l : List Value} (h : aw.get b i = some v) (t : aw.getN b (i + 1) n = some l) : aw.getN b i (n + 1) = some (v :: l) := by
  simp [AW.getN, h, t]
end
end Go.Am
