/- What strconv.ParseInt gives for digits. -/
import Derived.Test.YtdamanhpnbefgaaDoorTrydS3
import Derived.IntWalk
set_option linter.unusedSimpArgs false
set_option linter.unusedVariables false
namespace Go.Proofs.Tryd
open Go Go.Am Go.Lx
variable {E : List PanicEntry → AW → Prop} {aw aw0 : AW}

theorem digit_le {b : UInt8} (h : digit b = true) : 48 ≤ b.toNat ∧ b.toNat ≤ 57 := by
  simp only [digit, Bool.and_eq_true, decide_eq_true_eq, bn] at h
  omega
theorem T_parseUint_loop {Q : Int × Value → AW → Prop} (l : List UInt8) (hd : ∀ b ∈ l, digit b = true) (hl : l.length ≤ 2000) {g c : Nat} (hg : aw.m g = some ⟨bytesV l, 5, 1, true, 0⟩) (hne : l ≠ []) (s0 : ByteArray)
    (hok : numVal 0 l < 2 ^ 64 → Q ((numVal 0 l : Int), .nilIface) aw) (hbad : 2 ^ 64 ≤ numVal 0 l → Q (18446744073709551615, .iface 58 (.int .i64 1)) aw) :
    ∀ (n i v : Nat), l.length < i + n → i ≤ l.length → numVal 0 l = numVal v (l.drop i) → v < 2 ^ 64 →
      S33_8 Q E n 10 false s0 1844674407370955162 18446744073709551615 false v (.slice (some ⟨g, 0, none⟩) l.length c) l.length i aw
  | 0, i, v, hn, hi, _, _ => absurd hn (by omega)
  | n + 1, i, v, hn, hi, hv, hv2 => by
    have ih := T_parseUint_loop (Q := Q) (c := c) l hd hl hg hne s0 hok hbad n
    show S33_8s Q E _ _ _ _ _ _ _ _ _ _ _ _
    unfold S33_8s
    refine cnd_i (fun c1 => ?_) (fun c1 => ?_)
    · have c1 : i < l.length := by have := of_decide_eq_true c1; omega
      have hr : l.drop i = l[i] :: l.drop (i + 1) := List.drop_eq_getElem_cons c1
      generalize hx : l[i] = x at hr
      have hxi : l[i]? = some x := by rw [List.getElem?_eq_getElem c1, hx]
      have hmem : x ∈ l := by rw [← hx]; exact List.getElem_mem c1
      have hdx := digit_le (hd x hmem)
      rw [hr, numVal_cons] at hv
      have hgt : aw.get g (0 + i * 1) = some (.int .u8 (bn x)) := by
        rw [get_of hg]; simp [bytesV, hxi]
      refine ixS_i (j := i) (l := l.length) (c := c) (b := g) (i := 0) rfl c1 ?_
      refine ldI_i (n := bn x) hgt ?_
      have hx95 : ¬ bn x = 95 := by simp only [bn]; omega
      refine cnd_false (decide_eq_false hx95) ?_
      unfold S33_9
      simp only [cnd_ff]
      refine cnd_true (decide_eq_true (by simp only [bn]; omega)) ?_
      unfold S33_10
      refine cnd_true (decide_eq_true (by simp only [bn]; omega)) ?_
      unfold S33_11
      rw [IntWalk.u8_in (bn x - 48) (by simp only [bn]; omega)]
      rw [show IntKind.u8.wrap 10 = 10 from rfl, show IntKind.u64.wrap 10 = 10 from rfl, IntWalk.u64_in (bn x - 48) (by simp only [bn]; omega)]
      refine cnd_false (decide_eq_false (by simp only [bn]; omega)) ?_
      have hge := numVal_ge (l.drop (i + 1)) (v * 10 + (x.toNat - 48))
      refine cnd_i (fun c2 => ?_) (fun c2 => ?_)
      · have c2 := of_decide_eq_true c2
        exact hbad (by omega)
      · have c2 := of_decide_eq_false c2
        rw [IntWalk.u64_in ((v : Int) * 10) (by omega)]
        by_cases c3 : v * 10 + (x.toNat - 48) < 2 ^ 64
        · rw [IntWalk.u64_in ((v : Int) * 10 + (bn x - 48)) (by simp only [bn]; omega)]
          refine cnd_false (decide_eq_false (by simp only [bn]; omega)) ?_
          refine cnd_false (decide_eq_false (by simp only [bn]; omega)) ?_
          unfold S33_12
          rw [i64_in (n := (i : Int) + 1) (by omega) (by omega)]
          have := ih (i + 1) (v * 10 + (x.toNat - 48)) (by omega) (by omega) hv c3
          have e : ((v : Int) * 10 + (bn x - 48)) = ((v * 10 + (x.toNat - 48) : Nat) : Int) := by simp only [bn]; omega
          rw [e]; exact this
        · have e : IntKind.u64.wrap ((v : Int) * 10 + (bn x - 48)) = (v : Int) * 10 + (bn x - 48) - 18446744073709551616 := by
            simp only [IntKind.wrap, IntKind.bits, IntKind.signed, bn]
            simp
            omega
          rw [e]
          refine cnd_true (decide_eq_true (by simp only [bn]; omega)) ?_
          exact hbad (by omega)
    · have c1 : i = l.length := by have := of_decide_eq_false c1; omega
      rw [c1, List.drop_length, numVal_nil] at hv
      simp only [cnd_ff]
      rw [← hv]; exact hok (by omega)
theorem mkB_ne_nil {l : List UInt8} (h : l ≠ []) : ¬ (mkB l = (⟨#[]⟩ : ByteArray)) := fun e => h (mkB_inj.1 e)
theorem T_parseUint {Q : Int × Value → AW → Prop} (l : List UInt8) (hd : ∀ b ∈ l, digit b = true) (hl : l.length ≤ 2000) (hne : l ≠ [])
    (hok : numVal 0 l < 2 ^ 64 → ∀ aw', Ext aw aw' → Q ((numVal 0 l : Int), .nilIface) aw') (hbad : 2 ^ 64 ≤ numVal 0 l → ∀ aw', Ext aw aw' → Q (18446744073709551615, .iface 58 (.int .i64 1)) aw') :
    CallP prog 33 [.string (mkB l), .int .i64 10, .int .i64 64] aw sh33 Q E :=
  F33_ok _ _ _ _ (by
    unfold S33_0
    refine cnd_false (decide_eq_false (mkB_ne_nil hne)) (cnd_true rfl ?_)
    unfold S33_1
    refine cnd_true rfl ?_
    unfold S33_5
    refine cnd_false rfl (cnd_false rfl (cnd_false rfl ?_))
    unfold S33_6
    refine cnd_true rfl ?_
    unfold S33_7
    refine ⟨by decide, _, _, rfl, rfl, slen_i ⟨l.length + 1, ?_⟩⟩
    rw [show IntKind.u64.wrap ((IntKind.u64.wrap (1 * 2 ^ (min (IntKind.u64.wrap 64).toNat IntKind.u64.bits))) - 1) = 18446744073709551615 by decide +kernel]
    have he := (Ext.refl aw).alloc (bytesV l) 5 1
    exact T_parseUint_loop (c := UNK) l hd hl (AW.alloc_new _ _ _ _) hne (mkB l) (fun h => hok h _ he) (fun h => hbad h _ he) (l.length + 1) 0 0 (by omega) (by omega) rfl (by decide))
theorem cm58 : (prog.info? 58).map (·.comparable) = some true := by kernel_rfl
theorem T_iParseInt {Q : Int × Value → AW → Prop} (l : List UInt8) (hd : ∀ b ∈ l, digit b = true) (hl : l.length ≤ 2000) (hne : l ≠ [])
    (hok : numVal 0 l < 2 ^ 63 → ∀ aw', Ext aw aw' → Q ((numVal 0 l : Int), .nilIface) aw') (hbad : 2 ^ 63 ≤ numVal 0 l → ∀ aw' v, Ext aw aw' → Q (v, .iface 58 (.int .i64 1)) aw') :
    CallP prog 29 [.string (mkB l), .int .i64 10, .int .i64 64] aw sh29 Q E :=
  F29_ok _ _ _ _ (by
    unfold S29_0
    refine cnd_false (decide_eq_false (mkB_ne_nil hne)) ?_
    obtain ⟨a, r, rfl⟩ : ∃ a r, l = a :: r := by
      cases l with
      | nil => exact absurd rfl hne
      | cons a r => exact ⟨a, r, rfl⟩
    have hda := digit_le (hd a (by simp))
    refine chr_i (j := 0) (x := a) rfl rfl ?_
    refine cnd_false (decide_eq_false (by simp only [bn]; omega)) (cnd_false (decide_eq_false (by simp only [bn]; omega)) ?_)
    unfold S29_1
    have fin : ∀ (un : Nat) (aw' : AW), (un < 2 ^ 63 → Q ((un : Int), .nilIface) aw') → (2 ^ 63 ≤ un → ∀ v, Q (v, .iface 58 (.int .i64 1)) aw') → S29_2 Q E 64 false un aw' := by
      intro un aw' h1 h2
      unfold S29_2
      refine ⟨by decide, cnd_true rfl ?_⟩
      unfold S29_3
      rw [show IntKind.u64.wrap (1 * 2 ^ (min (IntKind.u64.wrap (IntKind.i64.wrap (64 - 1))).toNat IntKind.u64.bits)) = 9223372036854775808 by decide +kernel]
      refine cnd_i (fun c => ?_) (fun c => ?_)
      · have c := of_decide_eq_true c
        exact h2 (by omega) _
      · have c := of_decide_eq_false c
        simp only [cnd_ff]
        try unfold S29_4
        rw [i64_in (n := (un : Int)) (by omega) (by omega)]
        exact h1 (by omega)
    refine T_parseUint (a :: r) hd hl hne (fun h aw' he => ?_) (fun h aw' he => ?_)
    · refine ⟨true, rfl, rfl, ?_⟩
      simp only [Bool.not_true, cnd_ff]
      refine cnd_false rfl ?_
      exact fin _ aw' (fun h => hok h aw' he) (fun h v => hbad h aw' v he)
    · refine ⟨false, rfl, rfl, ?_⟩
      simp only [Bool.not_false, cnd_tt]
      refine ⟨_, .int underlying58 cm58, ?_⟩
      refine cnd_false rfl (cnd_false rfl ?_)
      exact fin 18446744073709551615 aw' (fun h => absurd h (by decide)) (fun _ v => hbad (by omega) aw' v he))
theorem putL_full (xs cs : List Value) (h : xs.length = cs.length) : putL cs 0 xs = xs := by
  have := putL_app xs [] cs [] 0 rfl h
  simpa using this
theorem T_clone {Q : ByteArray → AW → Prop} (l : List UInt8) (hl : l.length ≤ 2000) (hQ : ∀ aw', Ext aw aw' → Q (mkB l) aw') : CallP prog 41 [.string (mkB l)] aw sh41 Q E :=
  F41_ok _ _ (by
    unfold S41_0
    have hsz : (mkB l).size = l.length := rfl
    refine cnd_i (fun c => ?_) (fun c => ?_)
    · have c := of_decide_eq_true c
      have : l = [] := List.length_eq_zero_iff.1 (by omega)
      subst this
      exact hQ aw (Ext.refl aw)
    · have c := of_decide_eq_false c
      have hpos : 0 < l.length := by omega
      refine ⟨_, _, by omega, Int.le_refl _, by omega, by omega, rfl, rfl, ?_⟩
      have e0 : ((mkB l).size : Int).toNat = l.length := by omega
      rw [e0]
      have hz : (zeros [(.int .u8 0 : Value)] l.length).length = l.length := by simp [zeros_length]
      have hm : (aw.alloc (zeros [(.int .u8 0 : Value)] l.length) 5 1).m aw.next = some ⟨zeros [(.int .u8 0 : Value)] l.length, 5, 1, true, 0⟩ := AW.alloc_new _ _ _ _
      have hb : (bytesV l).length = l.length := by simp [bytesV]
      have ht : (bytesV l).take (min l.length l.length * 1) = bytesV l := by rw [Nat.min_self, Nat.mul_one, ← hb, List.take_length]
      refine ⟨aw.next, 0, l.length, l.length, l.length, bytesV l, _, _, rfl, .str (mkB l) rfl, ?_, ?_, rfl, rfl, ?_⟩
      · rw [ht]; exact bytesV_one l
      · rw [ht, hb]; exact ⟨_, hm, rfl, by simp [hz], Nat.le_refl _⟩
      rw [ht, setN_lay _ hm]
      simp only
      rw [putL_full _ _ (by rw [hz, hb])]
      refine ixS_i (j := 0) rfl hpos (slen_i ?_)
      have hm2 := AW.lay_same (aw.alloc (zeros [(.int .u8 0 : Value)] l.length) 5 1) aw.next ⟨bytesV l, 5, 1, true, 0⟩
      refine ⟨_, _, .inr ⟨l, aw.next, _, List.length_pos_iff.1 hpos, rfl, by omega, rfl, ?_, hm2, rfl, rfl, rfl, rfl⟩, ?_⟩
      · have := getN_whole hm2
        simp only [hb] at this; exact this
      · exact hQ _ ((((Ext.refl aw).alloc _ _ _).lay _ (Nat.le_refl _)).kill (Nat.le_refl _)))
theorem T_rangeError {Q : Value → AW → Prop} (f l : List UInt8) (hl : l.length ≤ 2000) (hG : G0 aw) (hQ : ∀ aw' v, Ext aw aw' → Q v aw') : CallP prog 35 [.string (mkB f), .string (mkB l)] aw sh35 Q E :=
  F35_ok _ _ _ (by
    unfold S35_0
    obtain ⟨h9, _, _, t, u, p, h4⟩ := hG
    have ld : ∀ (aw' : AW) (K : Value → Prop), Ext aw aw' → K (.iface u (.pointer (some p))) → ldV aw' (.pointer (some ⟨4, 0, none⟩)) K := fun aw' K he hK =>
      ldV_i (by simp [AW.get, he.get (by omega) h4]) hK
    have A : CallP prog 41 [.string (mkB l)] aw sh41 (fun r6 aw7 => one (.iface u (.pointer (some p))) = true ∧ alc aw7 [.string (mkB f), .string r6, (.iface u (.pointer (some p)))] 70 0 fun p9 aw10 => Q p9 aw10) E :=
      T_clone l hl fun aw' he => ⟨rfl, alc_i (hQ _ _ (he.alloc _ _ _))⟩
    have B : CallP prog 41 [.string (mkB l)] aw sh41 (fun r6 aw7 => ldV aw7 (.pointer (some ⟨4, 0, none⟩)) fun x11 => one x11 = true ∧ alc aw7 [.string (mkB f), .string r6, x11] 70 0 fun p14 aw15 => Q p14 aw15) E :=
      T_clone l hl fun aw' he => ld aw' _ he ⟨rfl, alc_i (hQ _ _ (he.alloc _ _ _))⟩
    have C : ldV aw (.pointer (some ⟨4, 0, none⟩)) fun x9 => CallP prog 41 [.string (mkB l)] aw sh41 (fun r6 aw7 => one x9 = true ∧ alc aw7 [.string (mkB f), .string r6, x9] 70 0 fun p9 aw10 => Q p9 aw10) E := ld aw _ (Ext.refl aw) A
    exact ld aw _ (Ext.refl aw) ⟨A, ⟨B, C⟩, A, ⟨B, C⟩, B, C⟩)
theorem T_parseInt {Q : Int × Value → AW → Prop} (l : List UInt8) (hd : ∀ b ∈ l, digit b = true) (hl : l.length ≤ 2000) (hne : l ≠ []) (hG : G0 aw)
    (hok : numVal 0 l < 2 ^ 63 → ∀ aw', Ext aw aw' → Q ((numVal 0 l : Int), .nilIface) aw') (hbad : 2 ^ 63 ≤ numVal 0 l → ∀ aw' v t u, Ext aw aw' → Q (v, .iface t u) aw') :
    CallP prog 26 [.string (mkB l), .int .i64 10, .int .i64 64] aw sh26 Q E :=
  F26_ok _ _ _ _ (by
    unfold S26_0
    refine T_iParseInt l hd hl hne (fun h aw' he => ?_) (fun h aw' v he => ?_)
    · exact ⟨true, rfl, rfl, cnd_false rfl (hok h aw' he)⟩
    · refine ⟨false, rfl, rfl, cnd_true rfl ?_⟩
      refine F30_ok _ _ _ _ _ _ ?_
      unfold S30_0
      refine ⟨_, .int underlying58 cm58, cnd_false rfl ⟨_, .int underlying58 cm58, cnd_true rfl ?_⟩⟩
      exact T_rangeError [80, 97, 114, 115, 101, 73, 110, 116] l hl (hG.ext he) fun aw2 w he2 => hbad h aw2 v _ _ (he.trans he2))
end Go.Proofs.Tryd
