/- Pieces of iterators: shapes of regions, elements, a round. -/
import Derived.Test.YtfdfakapkhflcaaBq1
set_option linter.unusedSimpArgs false
set_option linter.unusedVariables false
set_option linter.unusedSectionVars false
namespace Go.Ri
open Go Go.Am Go.RowKit
variable [SymE] [FT] [FTok]
abbrev OpD3 := Op × Option Tmp × Option (Nat × Bool)
def shp (ops : Array Oper) : List OpD3 := ops.toList.map fun o => (o.op, o.dst, o.guard)
theorem shp_get {ops : Array Oper} {l : List OpD3} (h : shp ops = l) {i : Nat} {op : Op} {d : Option Tmp} {g : Option (Nat × Bool)} (hi : l[i]? = some (op, d, g)) : ∃ o, ops[i]? = some o ∧ o.op = op ∧ o.dst = d ∧ o.guard = g := by
  subst h
  simp only [shp, List.getElem?_map, Option.map_eq_some_iff] at hi
  obtain ⟨o, h1, h2⟩ := hi
  simp only [Prod.mk.injEq] at h2
  exact ⟨o, by simpa using h1, h2.1, h2.2.1, h2.2.2⟩
theorem shp_size {ops : Array Oper} {l : List OpD3} (h : shp ops = l) : ops.size = l.length := by
  subst h; simp [shp]
def one64 : Operand := .const (.int .i64 1)
def zero64 : Operand := .const (.int .i64 0)
noncomputable def bkElem (P : Program) (M : Mem) (T e : TypeId) (sv : Value) (i : Nat) : Option Value := match eIxA P (fun t => Nat.rec (motive := fun _ => Value) sv (fun _ _ => .int .i64 (.ofNat i)) t) M T (.tmp 0) (.tmp 1) with
  | some (p, _) => (match eLoad P (fun _ => p) M e (.tmp 0) with
    | some (x, _) => some x
    | none => none)
  | none => none
theorem fw_small {n : Int} (h1 : -9223372036854775808 ≤ n) (h2 : n < 9223372036854775808) : fw .i64 n = n := by
  rw [fw_eq]
  simp only [IntKind.wrap, IntKind.bits, IntKind.signed]
  simp
  split <;> omega
theorem eIxA_eq {P : Program} {ρ ρ' : Env} {M : Mem} {T : TypeId} {a b c d : Nat} (h1 : ρ a = ρ' c) (h2 : ρ b = ρ' d) : eIxA P ρ M T (.tmp a) (.tmp b) = eIxA P ρ' M T (.tmp c) (.tmp d) := by
  simp only [eIxA, okv, h1, h2]
theorem eLoad_eq {P : Program} {ρ ρ' : Env} {M : Mem} {T : TypeId} {a c : Nat} (h1 : ρ a = ρ' c) : eLoad P ρ M T (.tmp a) = eLoad P ρ' M T (.tmp c) := by
  simp only [eLoad, okv, h1]
noncomputable def rnd (P : Program) (C : Caller) (N : Nat) (assign body : Code) (ρ : T Value) (M : Mem) : Option Mem := match sRun P C N 100 [.code assign] ρ M with
  | none => none
  | some (ρ1, M1) => (match sRun P C N 100 [.code body] ρ1 M1 with
    | none => none
    | some (_, M2) => some M2)
section
variable {P : Program}
theorem Seg.regionN {N n id : Nat} {k : List Item} {ρ : Env} {aw : AW} {ops : Array Oper} (h : ops.size = n) : Seg P N (.code (.region id ops false) :: k) (.inRegion ops (List.range n) :: k) ρ ρ aw aw := h ▸ Seg.region
variable {N : Nat} {ops : Array Oper} {sh : List OpD3} {i d : Nat} {rest : List Nat} {k : List Item} {ρ : Env} {M M' : Mem} {v : Value} {oq : Op}
theorem Seg.shp (h : shp ops = sh) (hi : sh[i]? = some (oq, some d, none)) (hd : d < N) (hnd : ∀ c, oq ≠ .defer c) (he : eOp P ρ M oq = some (v, M')) : Seg P N (.inRegion ops (i :: rest) :: k) (.inRegion ops rest :: k) ρ (ρ.put (some d) v) M.abs M'.abs := by
  obtain ⟨o, h1, h2, h3, h4⟩ := shp_get h hi
  exact Seg.op h1 h2 h3 h4 hd hnd he
end
theorem put_ne (ρ : Env) {d t : Nat} (v : Value) (h : t ≠ d) : (ρ.put (some d) v) t = ρ t := by rw [Env.put_some]; exact if_neg h
theorem ev_put (ρ : Env) (d : Nat) (v : Value) : Env.eval (ρ.put (some d) v) (.tmp d) = v := by
  show (ρ.put (some d) v) d = v
  rw [Env.put_some]; exact if_pos rfl
theorem put_eq (ρ : Env) (d : Nat) (v : Value) : (ρ.put (some d) v) d = v := by rw [Env.put_some]; exact if_pos rfl
section
variable {P : Program} {C : Caller}
structure Inv (P : Program) (base : Nat → Prop) (ws : World) (M : Mem) (s : Inj) (l : Nat) (r : Loop) (w : World) : Prop where
  rel : Rel P.globals.size base ws s M.abs w
  rcd : w.heap[l]? = some (.loop r)
theorem rnd_spec (hC : CS P C) {N : Nat} {assign body : Code} {ρ : T Value} {M M' : Mem} (h : rnd P C N assign body ρ M = some M') {base : Nat → Prop} {ws w : World} {s : Inj} {l : Nat} {r : Loop} (hi : Inv P base ws M s l r w) (hls : ws.heap.size ≤ l) (hlb : ¬ base l)
    (hr : r.state = .ready) (hra : r.assign = assign) (hrb : r.body = body) (hrp : r.pending = none) {tmps : Array Value} (he : ∀ t, VR s (slot ρ t) (tmps.getD t undef)) (hn : tmps.size = N) (c : Frame) (cs : List Frame) :
    ∃ s' w', s.le s' ∧ Steps P (lone (Frame.round l r.fn tmps r.assign r.body .normal) (c :: cs) w) (lone (c.finish (.bool true)) cs w') ∧ Inv P base ws M' s' l r w' := by
  unfold rnd at h
  split at h
  · cases h
  rename_i ρ1 M1 h1
  split at h
  · cases h
  rename_i ρ2 M2 h2
  simp only [Option.some.injEq] at h; subst h
  let b : Frame := { (default : Frame) with fn := r.fn, kind := .normal, roundOf := some l }
  have hb0 : Frame.round l r.fn tmps r.assign r.body .normal = b.atR { tmps := tmps, defers := [] } ([.code assign] ++ [.beginRound, .code body]) := by
    simp [Frame.round, Frame.atR, b, hra, hrb]
  rw [hb0]
  obtain ⟨s1, a1, w1, k1, k2, k3, k4, k5, k6⟩ := sRun_spec hC (N := N) (kk := [.beginRound, .code body]) 100 _ _ _ _ _ h1 base s { tmps := tmps, defers := [] } w b (c :: cs) hi.rel.re he hn
  have hl1 : w1.heap[l]? = some (.loop r) := k3.below.other l _ hi.rcd rfl
  have hbr := run_beginRound (P := P) hl1 hr
  have hs1 : step P (lone (b.atR a1 [.beginRound, .code body]) (c :: cs) w1) = .next (lone (b.atR a1 [.code body]) (c :: cs) _) := stepR_beginRound (l := l) rfl hbr
  have hrel1 : Rel P.globals.size base ws s1 M1.abs (w1.putObj l (.loop { r with state := .busy })) := (hi.rel.back k3).putObj hl1 rfl hls hlb _
  obtain ⟨s2, a2, w2, j1, j2, j3, j4, j5, j6⟩ := sRun_spec hC (N := N) (kk := []) 100 _ _ _ _ _ h2 base s1 a1 _ b (c :: cs) hrel1.re k4 k5
  have hlt : l < w1.heap.size := (Array.getElem?_eq_some_iff.1 hl1).1
  have hl2 : w2.heap[l]? = some (.loop { r with state := .busy }) := j3.below.other l _ (World.putObj_heap_same hlt) rfl
  have her := run_endRound (P := P) none hl2
  have hs2 : step P (lone (b.atR a2 []) (c :: cs) w2) = .next (lone (c.finish (.bool true)) cs _) := stepR_round_end (l := l) rfl rfl her
  have hlt2 : l < w2.heap.size := (Array.getElem?_eq_some_iff.1 hl2).1
  have hrr : ({ ({ r with state := .busy } : Loop) with state := if (none : Option Code).isNone then .ready else .done, pending := none } : Loop) = r := by
    cases r; simp only at hr hrp; subst hr; subst hrp; rfl
  refine ⟨s2, _, Inj.le_trans k1 j1, Steps.trans k2 (.head hs1 (Steps.trans (by simpa using j2) (.one hs2))), (hrel1.back j3).putObj hl2 rfl hls hlb _, ?_⟩
  rw [World.putObj_heap_same hlt2, hrr]
end
theorem _root_.Go.Am.Rel.allocObj {G : Nat} {base : Nat → Prop} {w0 w : World} {s : Inj} {aw : AW} (h : Rel G base w0 s aw w) (o : Obj) : Rel G base w0 s aw (w.alloc o) := by
  refine ⟨h.fresh, h.mfresh, fun b B hB => ?_, h.sep, fun k hk => by have := h.hbase k hk; simp only [World.size_alloc]; omega, h.glob, h.below.alloc h.hbase o⟩
  obtain ⟨e, cs, fz, h1, h2, h3, h4⟩ := h.blk b B hB
  exact ⟨e, cs, fz, h1, h2, by rw [Below.heap_alloc _ _ _ (Array.getElem?_eq_some_iff.1 h3).1]; exact h3, h4⟩
end Go.Ri
