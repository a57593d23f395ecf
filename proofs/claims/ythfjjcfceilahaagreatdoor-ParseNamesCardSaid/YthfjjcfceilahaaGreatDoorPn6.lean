/- ParseNames: the law's walk. -/
import Derived.Test.YthfjjcfceilahaaGreatDoorPn5
import Derived.Test.YthfjjcfceilahaaGreatDoorQT1
import Derived.Test.YthfjjcfceilahaaGreatDoorL5
set_option linter.unusedSimpArgs false
set_option linter.unusedVariables false
set_option linter.unusedSectionVars false
set_option maxRecDepth 100000
namespace Go.Proofs.YthfjjcfceilahaaGreatDoor
open Go Go.Am Go.Ri Go.RowKit
def ltr (b : UInt8) : UInt8 := UInt8.ofNat (97 + b.toNat % 26)
theorem ltr_nat (b : UInt8) : (ltr b).toNat = 97 + b.toNat % 26 := by
  unfold ltr
  rw [UInt8.toNat_ofNat']
  omega
theorem ltr_let (b : UInt8) : let' (ltr b) = true := by
  simp only [let', ltr_nat, Bool.and_eq_true, Nat.ble_eq]
  omega
theorem ltr_wrap (b : UInt8) : IntKind.u8.wrap (97 + Int.tmod (b.toNat : Int) 26) = (((ltr b).toNat : Nat) : Int) := by
  rw [ltr_nat]
  have : Int.tmod (b.toNat : Int) 26 = ((b.toNat % 26 : Nat) : Int) := by
    rw [Int.tmod_eq_emod_of_nonneg (by omega)]; omega
  rw [this]
  show ((97 : Int) + ((b.toNat % 26 : Nat) : Int)) % 256 = _
  omega
noncomputable def NR (t u : Nat → TypeId) : List (Nat × Blk) := (PL t u).map fun p => (p.1, ⟨p.2.1, p.2.2.1, p.2.2.2, false, 0⟩)
theorem vars_of [SymE] {aw0 aw : AW} {own : List Nat} {l : List (Nat × Blk)} {t u : Nat → TypeId} (M : Hp aw0 own (NR t u) aw l) : Vars t u aw := fun p hp => by
  have hb := M.ro_ (p.1, ⟨p.2.1, p.2.2.1, p.2.2.2, false, 0⟩) (List.mem_map.2 ⟨p, hp, rfl⟩)
  exact (M.keep _ hb.2.1 hb.2.2).trans hb.1
theorem awkQ [SymE] {aw0 aw : AW} {own : List Nat} {l : List (Nat × Blk)} {t u : Nat → TypeId} {Q : Bool → AW → Prop} {E : List PanicEntry → AW → Prop} (M : Hp aw0 own (NR t u) aw l) (hQ : Q true aw) : CallP Tryz.prog 10 [] aw Tryz.sh10 Q E := by
  letI : FT := ftOf {}
  haveI : FTok := ftOk (F := {}) ⟨(fun _ h => by cases h), (fun _ h => by cases h), (fun _ h => by cases h), (fun _ h => by cases h)⟩
  obtain ⟨M', hM⟩ := retB_some (aw1 t u)
  have hr := callPl_spec (O := O0) (fun C h => h) hP hX0 hRB0 hmix 40 10 [] _ _ _ hM
  have := acalls_ren (underR (vars_of M)) (by rfl) (by rfl) hr
  exact this.mono fun e aw' he => by
    obtain ⟨rfl, rfl⟩ := he
    exact ⟨true, rfl, hQ⟩
def sB (cs : List UInt8) : ByteArray := mkB (jn cs)
theorem sB_size [SymE] (cs : List UInt8) : (sB cs).size ≤ 3 * cs.length := by
  by_cases h : cs = []
  · subst h; exact Nat.le_refl 0
  · rw [sB, mkB_size, jn_len h]; omega
section
variable [SymE] {aw0 aw : AW} {t u : Nat → TypeId} {Q : Bool → AW → Prop} {E : List PanicEntry → AW → Prop}
theorem inner_x {nx1 : Value → ByteArray → Bool → Value → Int → AW → Prop} {nv : Value} {cs : List UInt8} {i : Nat} {c : UInt8} {w0 : Bool} {own : List Nat} {ro l : List (Nat × Blk)} (hci : cs[i]? = some c) (h20 : cs.length ≤ 20) {wv : Value} {L : List (Nat × Blk)} (hw : SlP 9 1 wv i ((cs.take i).map tx) L)
    (hK : ∀ v aw' L', SlP 9 1 v (i + 1) ((cs.take (i + 1)).map tx) L' → Hp aw0 own ro aw' (L' ++ l) → nx1 nv (sB (cs.take (i + 1))) (w0 || decide (c ∈ cs.take i)) v ((i + 1 : Nat) : Int) aw') :
    ∀ (r k : Nat) (tw : Bool) (aw : AW), k + r = i → tw = (w0 || decide (c ∈ cs.take k)) → Hp aw0 own ro aw (L ++ l) → Tryz.S6_3 Q E nx1 (r + 1) nv (sB (cs.take i)) tw wv (i : Int) (mkB [c]) (k : Int) aw
  | 0, k, tw, aw, hk, htw, M => by
    show Tryz.S6_3s Q E nx1 _ _ _ _ _ _ _ _ _
    unfold Tryz.S6_3s
    obtain rfl : k = i := by omega
    have hlt : k < cs.length := (List.getElem?_eq_some_iff.1 hci).1
    have htk : (cs.take (k + 1)).map tx = (cs.take k).map tx ++ [tx c] := by
      rw [List.take_add_one, hci, List.map_append]; rfl
    have htc : cs.take (k + 1) = cs.take k ++ [c] := by rw [List.take_add_one, hci]; rfl
    have hsz := sB_size (cs.take k)
    have hln : (cs.take k).length = k := by simp; omega
    obtain ⟨q, cc, hq⟩ := hw.val
    have hsl : ∀ K : Int → Prop, K (k : Int) → slen wv K := fun K h => by rw [hq]; exact slen_x h
    refine hsl _ (cnd_0x (decide_eq_false (by omega)) (alcS_x M fun g aw1 M1 => ?_))
    have M2 : Hp aw0 own ro aw1 (L ++ ((g, ⟨[tx c], 9, 1, true, 0⟩) :: l)) := M1.perm List.perm_middle.symm
    refine app_p (k := 1) (cs := [tx c]) hw M2 (src_s (M1.im .here) rfl (by repeat constructor)) (by decide) rfl (by omega) fun b aw2 M3 => ?_
    have e : ((cs.take k).map tx).take (k * 1) ++ [tx c] = (cs.take (k + 1)).map tx := by
      rw [htk, List.take_of_length_le (by simp; omega)]
    rw [e] at M3
    have fin := fun (s' : ByteArray) (hs : s' = sB (cs.take (k + 1))) => by
      have := hK (.slice (some ⟨b, 0, none⟩) (k + 1) UNK) aw2 [(b, ⟨(cs.take (k + 1)).map tx, 9, 1, true, 0⟩)] (.some (by simp; omega)) (M3.drop (.there .here))
      rw [← hs, ← htw] at this
      exact this
    have hi1 : IntKind.i64.wrap ((k : Int) + 1) = ((k + 1 : Nat) : Int) := by rw [i64_in (by omega) (by omega)]; omega
    by_cases hk0 : 0 < k
    · have hne : cs.take k ≠ [] := fun e => by rw [e] at hln; simp at hln; omega
      refine cnd_1x (decide_eq_true (by omega)) ⟨?_, ?_⟩
      · show (sB (cs.take k)).size + 2 ≤ 2 ^ 62
        omega
      unfold Tryz.S6_4
      have e1 : sB (cs.take k) ++ (⟨#[44, 32]⟩ : ByteArray) = mkB (jn (cs.take k) ++ [44, 32]) := mkB_append _ [44, 32]
      rw [e1, mkB_append]
      refine ⟨?_, ?_⟩
      · show (jn (cs.take k) ++ [44, 32]).length + 1 ≤ 2 ^ 62
        have : (jn (cs.take k)).length ≤ 3 * (cs.take k).length := hsz
        simp only [List.length_append, List.length_cons, List.length_nil]
        omega
      rw [hi1]
      refine fin _ ?_
      rw [htc, sB, jn_snoc c hne]
      simp
    · obtain rfl : k = 0 := by omega
      refine cnd_0x (decide_eq_false (by omega)) ?_
      unfold Tryz.S6_4
      refine ⟨by show 0 + 1 ≤ 2 ^ 62; decide, ?_⟩
      rw [hi1]
      refine fin _ ?_
      rw [htc]
      show sB (cs.take 0) ++ mkB [c] = _
      rw [List.take_zero, sB, mkB_append]; rfl
  | r + 1, k, tw, aw, hk, htw, M => by
    show Tryz.S6_3s Q E nx1 (Tryz.S6_3 Q E nx1 (r + 1)) _ _ _ _ _ _ _ _
    unfold Tryz.S6_3s
    have hlt : i < cs.length := (List.getElem?_eq_some_iff.1 hci).1
    obtain ⟨q, cc, hq⟩ := hw.val
    have hsl : ∀ K : Int → Prop, K (i : Int) → slen wv K := fun K h => by rw [hq]; exact slen_x h
    have hkl : k < cs.length := by omega
    have hck : cs[k]? = some cs[k] := List.getElem?_eq_getElem hkl
    generalize cs[k] = d at hck
    have htc : cs.take (k + 1) = cs.take k ++ [d] := by rw [List.take_add_one, hck]; rfl
    have hi1 : IntKind.i64.wrap ((k : Int) + 1) = ((k + 1 : Nat) : Int) := by rw [i64_in (by omega) (by omega)]; omega
    refine hsl _ (cnd_1x (decide_eq_true (by omega)) ?_)
    rw [hi1]
    cases htv : tw with
    | true =>
      refine cnd_1x rfl (inner_x hci h20 hw hK r (k + 1) true aw (by omega) ?_ M)
      rw [htv] at htw
      rw [htc]
      cases hw0 : w0 with
      | true => rfl
      | false =>
        rw [hw0] at htw
        have : c ∈ cs.take k := by simpa using htw.symm
        simp [this]
    | false =>
      refine cnd_0x rfl ?_
      have key : ∀ {n : Nat} {v : Value} {os : List Value} {L : List (Nat × Blk)}, SlP 9 1 v n os L → 0 < n → ∃ b, v = .slice (some ⟨b, 0, none⟩) n UNK ∧ L = [(b, ⟨os, 9, 1, true, 0⟩)] := by
        intro n v os L h hn
        cases h with
        | nil => omega
        | some h => exact ⟨_, rfl, rfl⟩
      obtain ⟨b, e1, e2⟩ := key hw (by omega)
      have hb : aw.m b = some ⟨(cs.take i).map tx, 9, 1, true, 0⟩ := by
        have := M
        rw [e2] at this
        exact this.m .here
      rw [e1] at hw hsl ⊢
      refine ixS_x (by omega) (by omega) ?_
      rw [show 0 + (k : Int).toNat * 1 = k by omega]
      refine ⟨b, k, mkB [d], rfl, get_m hb ?_, ?_⟩
      · show ((cs.take i).map tx)[k]? = some (tx d)
        rw [List.getElem?_map, List.getElem?_take_of_lt (by omega), hck]; rfl
      refine inner_x hci h20 hw hK r (k + 1) _ aw (by omega) ?_ M
      rw [htv] at htw
      rw [htc]
      have hw0 : w0 = false := by
        cases hh : w0 with
        | false => rfl
        | true => rw [hh, Bool.true_or] at htw; cases htw
      have hnm : c ∉ cs.take k := by rw [hw0] at htw; simpa using htw.symm
      rw [hw0]
      simp only [Bool.false_or]
      refine decide_eq_decide.2 ?_
      rw [mkB_inj]
      simp only [List.cons.injEq, and_true, List.mem_append, hnm, List.mem_singleton, false_or]
      exact ⟨fun h => h.symm, fun h => h.symm⟩
end
end Go.Proofs.YthfjjcfceilahaaGreatDoor
