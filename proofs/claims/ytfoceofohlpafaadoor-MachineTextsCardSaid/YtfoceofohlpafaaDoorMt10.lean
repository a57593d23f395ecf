/- MachineTexts. -/
import Derived.Test.YtfoceofohlpafaaDoorMt9
set_option linter.unusedVariables false
set_option linter.unusedSimpArgs false
set_option linter.unusedSectionVars false
set_option maxRecDepth 100000
namespace Go.Proofs.YtfoceofohlpafaaDoor
open Go Go.Am Go.RowKit Go.Ri Go.Proofs.Tryd
variable [SymE]
section
variable {aw0 aw : AW} {own : List Nat} {l : List (Nat × Blk)} {t1 t2 : TypeId} {E : List PanicEntry → AW → Prop} {a b : ByteArray}
abbrev RBk (e w : Int) (rs out : ByteArray) (mv : Value) (fu : Int) : Blk := ⟨[.int .i64 e, .int .u64 w, .string rs, .string out, mv, .int .i64 fu], 29, 0, true, 0⟩
theorem texts2 (h0 : SymE.E 0 = .string a) (h1 : SymE.E 1 = .string b) (ha : a.size ≤ 2500) (hb : b.size ≤ 2500) (M : Hp aw0 own (ro0 t1 t2) aw l) : S6_2 (fun r _ => r = true) E a b aw := by
  unfold S6_2
  refine alcS_x M fun cb aw1 M1 => textRun2 h0 h1 ha hb M1 fun m2 aw2 M2 => ?_
  refine alc_x M2 fun p2 aw3 M3 => st_x M3 .here (by repeat constructor) rfl rfl rfl fun aw4 M4 => ?_
  refine alcS_x M4 fun cb3 aw5 M5 => textRun3 h0 h1 ha hb M5 fun m3 aw6 M6 => ?_
  refine alc_x M6 fun p3 aw7 M7 => st_x M7 .here (by repeat constructor) rfl rfl rfl fun aw8 M8 => ?_
  refine alcS_x M8 fun cb4 aw9 M9 => textRun4 h0 ha M9 fun m4 aw10 M10 => ?_
  refine alc_x M10 fun p4 aw11 M11 => st_x M11 .here (by repeat constructor) rfl rfl rfl fun aw12 M12 => num_x _ ?_
  have M12 : Hp aw0 own (ro0 t1 t2) aw12 ((p4, RBk 0 ((WN (a.size : Int) : Nat) : Int) ⟨#[]⟩ ⟨#[]⟩ nil3 4) :: (p3, RBk 0 ((WN (if a = b then 1 else 0) : Nat) : Int) ⟨#[]⟩ ⟨#[]⟩ nil3 5) :: (p2, RBk 0 ((WN (if a = b then 1 else 0) : Nat) : Int) ⟨#[]⟩ ⟨#[]⟩ nil3 4) :: l) := M12
  have fin : ∀ same : Int, same = ((WN (if a = b then 1 else 0) : Nat) : Int) → S6_3 (fun r _ => r = true) E a (Pt p2) (Pt p3) (Pt p4) same aw12 := fun same hs => by
    unfold S6_3
    refine fldA_x (ldI_x (M12.im (.there (.there .here))) (by repeat constructor) (cnd_1x (decide_eq_true hs.symm) ?_))
    refine fldA_x (ldI_x (M12.im (.there (.there .here))) (by repeat constructor) (cnd_1x rfl ?_))
    refine fldA_x (ldI_x (M12.im (.there .here)) (by repeat constructor) (cnd_1x (decide_eq_true hs.symm) ?_))
    refine fldA_x (ldI_x (M12.im (.there .here)) (by repeat constructor) (cnd_1x rfl ?_))
    refine fldA_x (ldI_x (M12.im .here) (by repeat constructor) (num_x _ (again_x (M12.im .here) (by repeat constructor) (cnd_1x (by rw [Wn_nat]; simp) ?_))))
    exact fldA_x (ldI_x (M12.im .here) (by repeat constructor) rfl)
  by_cases hab : a = b
  · exact cnd_1x (decide_eq_true hab) (num_x _ (fin _ (by rw [if_pos hab, Wn_nat])))
  · exact cnd_0x (decide_eq_false hab) (fin _ (by rw [if_neg hab, Wn_nat]))
theorem texts_x (h0 : SymE.E 0 = .string a) (h1 : SymE.E 1 = .string b) (M : Hp aw0 own (ro0 t1 t2) aw l) : CallP Tryd.prog 6 [.string a, .string b] aw Tryd.sh6 (fun r _ => r = true) E := by
  refine F6_ok _ _ aw ?_
  unfold S6_0
  have out : S6_1 (fun r _ => r = true) E a b true aw := by
    unfold S6_1
    exact cnd_1x rfl (awk_x M rfl)
  refine awk_x M (cnd_0x rfl ?_)
  by_cases ha : 2500 < a.size
  · exact cnd_1x (decide_eq_true (by omega)) out
  refine cnd_0x (decide_eq_false (by omega)) ?_
  by_cases hb : 2500 < b.size
  · rw [decide_eq_true (by omega)]; exact out
  rw [decide_eq_false (by omega)]
  unfold S6_1
  have hsum : IntKind.i64.wrap ((a.size : Int) + (b.size : Int)) = ((a.size + b.size : Nat) : Int) := by rw [show ((a.size : Int) + (b.size : Int)) = ((a.size + b.size : Nat) : Int) by omega]; exact Tryd.i64_nat (by omega)
  refine cnd_0x rfl (alcS_x M fun cb aw1 M1 => textRun1 h0 h1 (by omega) (by omega) M1 (fun hs m aw2 M2 => ?_) fun hs m hb' mb B ws j aw2 hT hws hB M2 => ?_)
  · refine alc_x M2 fun p aw3 M3 => st_x M3 .here (by repeat constructor) rfl rfl rfl fun aw4 M4 => nilB_x rfl rfl (cnd_0x rfl ?_)
    rw [hsum]
    refine cnd_1x (decide_eq_true (by omega)) (fldA_x (ldI_x (M4.im .here) (by repeat constructor) (cnd_0x rfl (fldA_x (ldS_x (M4.im .here) (by repeat constructor) (cnd_0x (by simp) ?_))))))
    exact texts2 h0 h1 (by omega) (by omega) M4
  · refine alc_x M2 fun p aw3 M3 => st_x M3 .here (by repeat constructor) rfl rfl rfl fun aw4 M4 => nilB_x rfl rfl (cnd_0x rfl ?_)
    rw [hsum]
    refine cnd_0x (decide_eq_false (by omega)) (fldA_x (ldI_x (M4.im .here) (by repeat constructor) (cnd_0x rfl (fldA_x (ldI_x (M4.im .here) (by repeat constructor) ⟨by omega, ?_⟩)))))
    refine F18_ok _ aw4 ?_
    unfold S18_0
    obtain ⟨cells, el, esz, rw_, fz⟩ := B
    refine nilB_x rfl rfl (cnd_0x rfl (nck_x (fldA_x (ldV_x (M4.im (.there .here)) (Cell.of hB) (again_x (M4.im .here) (by repeat constructor) ?_)))))
    refine hText_x hT (.there (.there .here)) (.there (.there (.there .here))) hws M4 fun aw5 M5 => cnd_0x (by simp) ?_
    exact texts2 h0 h1 (by omega) (by omega) M5
end
end Go.Proofs.YtfoceofohlpafaaDoor
