/- notebook.Reply: an outcome as bytes. -/
import Derived.Test.YtfgihmgeplcfoaaGreatDoorNbW2
import Derived.Test.YtfgihmgeplcfoaaGreatDoorNaB
import Derived.Test.YtfgihmgeplcfoaaGreatDoorL5
set_option linter.unusedSimpArgs false
set_option linter.unusedVariables false
set_option linter.unusedSectionVars false
namespace Go.Proofs.Tryz
open Go Go.Am Go.RowKit Go.Oc
variable [SymE]
theorem _root_.Go.Am.At.app {L l : List (Nat × Blk)} {b : Nat} {B : Blk} (h : At l b B) : At (L ++ l) b B := by
  induction L with
  | nil => exact h
  | cons x L ih => exact .there ih
abbrev BA (l : List UInt8) : ByteArray := ⟨l.toArray⟩
def bcell (b : Bnd) : List Value := [.string (BA b.1), .string (BA b.2.1), .string (BA b.2.2)]
def bcs (l : List Bnd) : List Value := l.flatMap bcell
def mcell (m : Bool × Int) : List Value := [.bool m.1, .int .i64 m.2]
def mcs (l : List (Bool × Int)) : List Value := l.flatMap mcell
theorem flat_get {α : Type} {f : α → List Value} {n : Nat} (hf : ∀ x, (f x).length = n) : ∀ {l : List α} {i : Nat} {x : α}, l[i]? = some x → ∀ {k : Nat} {u : Value}, (f x)[k]? = some u → (l.flatMap f)[i * n + k]? = some u
  | [], i, x, h, k, u, hu => by cases h
  | y :: l, 0, x, h, k, u, hu => by
    have h : y = x := by simpa using h
    subst h
    rw [List.flatMap_cons, Nat.zero_mul, Nat.zero_add, List.getElem?_append_left (List.getElem?_eq_some_iff.1 hu).1]
    exact hu
  | y :: l, i + 1, x, h, k, u, hu => by
    have h : l[i]? = some x := by simpa using h
    rw [List.flatMap_cons, List.getElem?_append_right (by rw [hf]; rw [Nat.add_mul]; omega), hf, show (i + 1) * n + k - n = i * n + k by rw [Nat.add_mul]; omega]
    exact flat_get hf h hu
theorem bcs_get {l : List Bnd} {i : Nat} {b : Bnd} (h : l[i]? = some b) {k : Nat} {u : Value} (hu : (bcell b)[k]? = some u) : (bcs l)[i * 3 + k]? = some u := flat_get (f := bcell) (n := 3) (fun _ => rfl) h hu
theorem mcs_get {l : List (Bool × Int)} {i : Nat} {b : Bool × Int} (h : l[i]? = some b) {k : Nat} {u : Value} (hu : (mcell b)[k]? = some u) : (mcs l)[i * 2 + k]? = some u := flat_get (f := mcell) (n := 2) (fun _ => rfl) h hu
theorem nth_mid {α : Type} {l d t : List α} {x : α} (h : l = d ++ x :: t) : l[d.length]? = some x := by rw [h]; simp
abbrev OBk (e a : Int) (r : List UInt8) (bv : Value) (u : List UInt8) (mv : Value) : Blk := ⟨[.int .i64 e, .int .i64 a, .string (BA r), bv, .string (BA u), mv], 26, 0, true, 0⟩
section
variable {aw0 aw : AW} {own : List Nat} {ro l L S : List (Nat × Blk)} {E : List PanicEntry → AW → Prop} {v pv : Value} {bs cs : List UInt8} {wb ob : Nat} {B : Nat × Blk}
theorem toB_x {K : Value → AW → Prop} (M : Hp aw0 own ro aw l) (h : ∀ v' B aw', Ob 5 v' cs [B] → Hp aw0 own ro aw' (B :: l) → K v' aw') : toB aw (BA cs) 5 K := by
  refine ⟨_, _, rfl, rfl, h _ _ _ ?_ (M.alloc 5 1)⟩
  have : (BA cs).size = cs.length := by simp [ByteArray.size, BA]
  rw [this]
  exact .blk rfl (.inr rfl)
theorem wtext_x {Q : Value → AW → Prop} (hl : bs.length < 2 ^ 41) (hc : cs.length < 2 ^ 40) (ho : Ob 5 pv bs L) (M : Hp aw0 own ro aw ((wb, WBk pv) :: (L ++ l)))
    (hQ : ∀ pv' L' aw', Ob 5 pv' (bs ++ encB cs) L' → Hp aw0 own ro aw' ((wb, WBk pv') :: (L' ++ l)) → Q (P0 wb) aw') : CallP prog 14 [P0 wb, .string (BA cs)] aw sh14 Q E := by
  refine F14_ok _ _ aw ?_
  unfold S14_0
  refine toB_x M fun v' B aw1 h1 M1 => ?_
  have M2 : Hp aw0 own ro aw1 ((wb, WBk pv) :: (L ++ (B :: l))) := M1.perm (by classical exact List.perm_iff_count.2 fun a => by simp only [List.count_append, List.count_cons]; omega)
  refine wbytes_x hl hc ho M2 (S := [B]) h1.rs.w (fun p hp => by obtain rfl := List.mem_singleton.1 hp; exact List.mem_cons_self ..) fun pv' L' aw2 h2 M3 => ?_
  have M4 : Hp aw0 own ro aw2 (B :: ((wb, WBk pv') :: (L' ++ l))) := M3.perm (by classical exact List.perm_iff_count.2 fun a => by simp only [List.count_append, List.count_cons]; omega)
  exact hQ pv' L' aw2 h2 (M4.drop .here)
theorem i64_s {n : Nat} (h : n < 2 ^ 60) : IntKind.i64.wrap ((n : Int) + 1) = ((n + 1 : Nat) : Int) := by
  rw [i64_in (by omega) (by omega)]; rfl
theorem reply_m {Q : Value → AW → Prop} {whole : List UInt8} (hw : whole.length < 2 ^ 40) {mv : Value} {moves : List (Bool × Int)} (hr : ∀ x ∈ moves, -9223372036854775808 ≤ x.2 ∧ x.2 < 9223372036854775808) (hn : moves.length < 2 ^ 60) (hM : Fs aw0 own ro S 2 mv moves.length (mcs moves)) (hS : ∀ p ∈ S, p ∈ l)
    (hQ : ∀ v' L' aw', Ob 5 v' whole L' → Hp aw0 own ro aw' (L' ++ l) → Q v' aw') : ∀ (todo done : List (Bool × Int)), moves = done ++ todo → ∀ (aw : AW) (pv : Value) (L : List (Nat × Blk)) (bs : List UInt8), Ob 5 pv bs L → whole = bs ++ encMs todo →
      Hp aw0 own ro aw ((wb, WBk pv) :: (L ++ (B :: l))) → S6_2 Q E (todo.length + 1) (P0 wb) mv (moves.length : Int) (done.length : Int) aw
  | [], done, hd, aw, pv, L, bs, ho, he, M => by
    show S6_2s Q E (S6_2 Q E 0) _ _ _ _ aw
    unfold S6_2s
    have hlen : moves.length = done.length := by rw [hd]; simp
    refine cnd_0x (by rw [hlen]; simp) ?_
    have he : whole = bs := by simpa [encMs] using he
    subst he
    refine done_x (by omega) ho M fun v' L' aw' h1 M1 => ?_
    have M2 : Hp aw0 own ro aw' (((wb, WBk pv) :: (L ++ [B])) ++ (L' ++ l)) := M1.perm (by classical exact List.perm_iff_count.2 fun a => by simp only [List.count_append, List.count_cons, List.count_nil]; omega)
    exact hQ v' L' aw' h1 M2.dropL
  | x :: todo, done, hd, aw, pv, L, bs, ho, he, M => by
    show S6_2s Q E (S6_2 Q E (todo.length + 1)) _ _ _ _ aw
    unfold S6_2s
    have hlen : moves.length = done.length + (todo.length + 1) := by rw [hd]; simp
    have hx := nth_mid hd
    have hxm : x ∈ moves := by rw [hd]; simp
    refine cnd_1x (by rw [hlen]; simp; omega) ?_
    have hS' : ∀ p ∈ S, p ∈ (wb, WBk pv) :: (L ++ (B :: l)) := fun p hp => List.mem_cons_of_mem _ (List.mem_append.2 (.inr (List.mem_cons_of_mem _ (hS p hp))))
    refine ix_f hM rfl (by omega) fun b o hg => ptr_x ⟨_, hg aw _ M hS' 0 _ (mcs_get hx (k := 0) rfl), ⟨_, hg aw _ M hS' 1 _ (mcs_get hx (k := 1) rfl), ?_⟩⟩
    refine alc_x M fun xb aw1 M1 => st_x M1 .here (by repeat constructor) rfl rfl rfl fun aw2 M2 => fldA_x (ldB_x (M2.im .here) (by repeat constructor) ?_)
    have M3 := M2.perm (l' := (wb, WBk pv) :: (L ++ ((xb, ⟨[.bool x.1, .int .i64 x.2], 52, 0, true, 0⟩) :: B :: l))) (by classical exact List.perm_iff_count.2 fun a => by simp only [List.count_append, List.count_cons]; omega)
    have he' : whole = bs ++ (encU (bif x.1 then 1 else 0) ++ (encU (zig x.2) ++ encMs todo)) := by rw [he]; simp [encMs, encMv]
    have hwl : whole.length = bs.length + ((encU (bif x.1 then 1 else 0)).length + ((encU (zig x.2)).length + (encMs todo).length)) := by rw [he']; simp only [List.length_append]
    have fin : ∀ (aw3 : AW) (pv1 : Value) (L1 : List (Nat × Blk)), Ob 5 pv1 (bs ++ encU (bif x.1 then 1 else 0)) L1 → Hp aw0 own ro aw3 ((wb, WBk pv1) :: (L1 ++ ((xb, ⟨[.bool x.1, .int .i64 x.2], 52, 0, true, 0⟩) :: B :: l))) →
        S6_3 Q E (S6_2 Q E (todo.length + 1)) (P0 wb) (P0 xb) mv (moves.length : Int) (done.length : Int) aw3 := by
      intro aw3 pv1 L1 h1 M4
      unfold S6_3
      refine fldA_x (ldI_x (M4.im (.there (At.app .here))) (by repeat constructor) ?_)
      refine wint_x (hr x hxm).1 (hr x hxm).2 (by simp; omega) h1 M4 fun pv2 L2 aw4 h2 M5 => ?_
      have M6 : Hp aw0 own ro aw4 ((xb, ⟨[.bool x.1, .int .i64 x.2], 52, 0, true, 0⟩) :: ((wb, WBk pv2) :: (L2 ++ (B :: l)))) := M5.perm (by classical exact List.perm_iff_count.2 fun a => by simp only [List.count_append, List.count_cons]; omega)
      rw [i64_s (by omega)]
      have := reply_m hw hr hn hM hS hQ todo (done ++ [x]) (by rw [hd]; simp) aw4 pv2 L2 _ h2 (by rw [he']; simp) (M6.drop .here)
      rw [show (done ++ [x]).length = done.length + 1 by simp] at this
      exact this
    cases hb : x.1 with
    | true =>
      refine cnd_1x rfl ?_
      have hb1 : (encU (bif x.1 then 1 else 0)) = encU 1 := by rw [hb]; rfl
      rw [hb] at M3
      refine wuint_x (n := 1) (by decide) (by omega) ho M3 fun pv1 L1 aw3 h1 M4 => ?_
      refine fin aw3 pv1 L1 (by rw [hb1]; exact h1) (by rw [hb]; exact M4)
    | false =>
      refine cnd_0x rfl ?_
      have hb1 : (encU (bif x.1 then 1 else 0)) = encU 0 := by rw [hb]; rfl
      rw [hb] at M3
      refine wuint_x (n := 0) (by decide) (by omega) ho M3 fun pv1 L1 aw3 h1 M4 => ?_
      refine fin aw3 pv1 L1 (by rw [hb1]; exact h1) (by rw [hb]; exact M4)
end
end Go.Proofs.Tryz
