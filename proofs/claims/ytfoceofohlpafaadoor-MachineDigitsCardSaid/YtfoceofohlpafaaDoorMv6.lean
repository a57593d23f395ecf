/- MachineDigits: the law. -/
import Derived.Test.YtfoceofohlpafaaDoorMv1
import Derived.Test.YtfoceofohlpafaaDoorMK3
import Derived.Test.YtfoceofohlpafaaDoorL3
set_option linter.unusedVariables false
set_option linter.unusedSimpArgs false
set_option linter.unusedSectionVars false
set_option maxRecDepth 100000
namespace Go.Proofs.YtfoceofohlpafaaDoor
open Go Go.Am Go.RowKit Go.Ri Go.Proofs.Tryd
abbrev DC (n : Value) : List Value := [.int .u8 5, .int .i64 1, .int .i64 0, .string (⟨#[]⟩ : ByteArray), .int .u8 0, n, .int .i64 0, .string (⟨#[]⟩ : ByteArray), .int .u8 7, .int .i64 0, .int .i64 0, .string (⟨#[]⟩ : ByteArray), .int .u8 8, .int .i64 0, .int .i64 0, .string (⟨#[]⟩ : ByteArray)]
theorem chkD (t1 t2 : TypeId) : retW (@callN ftW Tryd.prog X0 tab 200 60 21 [.slice (some ⟨6, 0, none⟩) 1 UNK, .int .i64 ((8 : Nat) : Int)] (memR 8 (GR t1 t2 ++ [(6, [.int .i64 0, .slice (some ⟨7, 0, none⟩) 4 4], 43, 2), (7, DC (.map (some 0)), 34, 4)]))) = true := by kernel_rfl
section
variable [SymE]
variable {aw0 aw : AW} {own : List Nat} {l : List (Nat × Blk)} {t1 t2 t3 : TypeId} {cb : Nat} {E : List PanicEntry → AW → Prop} {Q : (Int × Int × ByteArray × ByteArray × Value × Int × Value) → AW → Prop} {n : Int}
theorem digRun (h0 : SymE.E 0 = .int .i64 n) (M : Hp aw0 own (ro3 t1 t2 t3) aw ((cb, ⟨DC (.int .i64 n), 34, 4, true, 0⟩) :: l))
    (hQ : ∀ m hb mb B ws j aw', TxtAt ws j (mkB (numB (Nw ((WN n : Nat) : Int)))) → ws.length < 2 ^ 50 → B.cells[0]? = some (Pt hb) → Hp aw0 own (ro3 t1 t2 t3) aw' ((m, B) :: HL hb mb ws 4000 l) → Q (0, ((2 * j : Nat) : Int), ⟨#[]⟩, ⟨#[]⟩, nil3, 0, Pt m) aw') :
    CallP Tryd.prog 13 [.slice (some ⟨cb, 0, none⟩) 4 4, .int .i64 1] aw Tryd.sh13 Q E := by
  refine run13_x M (by decide) (by decide) 1 (fun b aw' l' Q' M' h => ?_) fun m hb mb gb fb p b1 b2 b3 rb tb aw5 H => ⟨4 + 1, ?_⟩
  · have := chk1_x (aw0 := aw0) (own := own) (l := l) (t1 := t1) (t2 := t2) (cb := cb) (nc := 4) (cc := 4) (E := E) (C := DC (.int .i64 n)) (cj := []) chkD rfl (fun ren => by rw [← h0]; rfl)
    exact this b aw' l' Q' (by simpa using less3 M') h
  have hl : (hw 8).length = 16 := rfl
  have hnl := numB_len (nw_lo ((WN n : Nat) : Int)) (nw_hi _)
  refine mm_glob (fs := []) (pc := 0) (i := 1) (w := 4) (gs := gw 8) H (codeL.ins (by decide) (by decide) rfl) sbL (by decide) (by decide) rfl (.there (.there (.there (.there (.there (.there (.there (.there .here)))))))) rfl rfl fun aw6 H1 => ?_
  refine mm_int (fs := []) (pc := 1) H1 (codeL.ins (by decide) (by decide) rfl) sbL (by decide) (by decide) fun aw7 H2 => ?_
  refine mm_digits (fs := []) (pc := 2) (j := 2) (st := [WN 0, WN 0]) H2 (codeL.ins (by decide) (by decide) rfl) sbL (by decide) (by decide) (by decide) (by decide) rfl rfl (by decide) (by decide) (by decide) (.there (.there .here)) fun mb1 aw8 H3 => ?_
  refine mm_ret (fs := []) (pc := 3) H3 (codeL.ins (by decide) (by decide) rfl) sbL (by decide) (by decide) (by decide) (by decide) fun aw9 H4 => ?_
  refine end13 (k := 0) (n2 := 0) H4 fun sk' fr' aw' M' => ?_
  have hla := txt_len (mkB (numB (Nw ((WN n : Nat) : Int))))
  refine hQ m hb mb1 (MCB (MX m hb fb gb) sk' fr' (1 - 1)) _ _ aw' (TxtAt.last (by rw [mkB_size]; omega)) (by rw [List.length_append, hl, hla, mkB_size]; omega) rfl ?_
  have M2 : Hp aw0 own (ro3 t1 t2 t3) aw' ((cb, ⟨DC (.int .i64 n), 34, 4, true, 0⟩) :: ((m, MCB (MX m hb fb gb) sk' fr' (1 - 1)) :: HL hb mb1 (hw 8 ++ txt (mkB (numB (Nw ((WN n : Nat) : Int))))) 4000 l)) := M'.perm (by
    classical exact List.perm_iff_count.2 fun a => by simp only [List.count_cons, HL]; omega)
  exact M2.drop .here
abbrev RBk (e w : Int) (rs out : ByteArray) (mv : Value) (fu : Int) : Blk := ⟨[.int .i64 e, .int .u64 w, .string rs, .string out, mv, .int .i64 fu], 29, 0, true, 0⟩
theorem digits_law (h0 : SymE.E 0 = .int .i64 n) (M : Hp aw0 own (ro3 t1 t2 t3) aw l) : CallP Tryd.prog 7 [.int .i64 n] aw Tryd.sh7 (fun r _ => r = true) E := by
  refine F7_ok _ aw ?_
  unfold S7_0
  refine awk_x (less3 M) (cnd_0x rfl ?_)
  refine alcS_x M fun cb aw1 M1 => digRun h0 M1 fun m hb mb B ws j aw2 hT hws hB M2 => ?_
  refine alc_x M2 fun p aw3 M3 => st_x M3 .here (by repeat constructor) rfl rfl rfl fun aw4 M4 => nilB_x rfl rfl (cnd_1x rfl ?_)
  have M4 : Hp aw0 own (ro3 t1 t2 t3) aw4 ((p, RBk 0 ((2 * j : Nat) : Int) ⟨#[]⟩ ⟨#[]⟩ nil3 0) :: (m, B) :: HL hb mb ws 4000 l) := M4
  refine fldA_x (ldI_x (M4.im .here) (by repeat constructor) (cnd_1x rfl (fldA_x (ldI_x (M4.im .here) (by repeat constructor) ?_))))
  refine F18_ok _ aw4 ?_
  unfold S18_0
  obtain ⟨cells, el, esz, rw_, fz⟩ := B
  refine nilB_x rfl rfl (cnd_0x rfl (nck_x (fldA_x (ldV_x (M4.im (.there .here)) (Cell.of hB) (again_x (M4.im .here) (by repeat constructor) ?_)))))
  refine hText_x hT (.there (.there .here)) (.there (.there (.there .here))) hws M4 fun aw5 M5 => ?_
  refine F12_ok _ aw5 ?_
  unfold S12_0
  rw [cut_eq]
  refine num_ref (nw_lo _) (nw_hi _) M5 fun aw6 M6 => cnd_1x (by simp) ?_
  exact fldA_x (ldI_x (M6.im .here) (by repeat constructor) rfl)
end
open Go.ChangeShapes Go.WideShapes Go.ChangeAt
theorem digOk : okTypes Tryd.prog [2] = true := by kernel_rfl
theorem und2 : Tryd.prog.underlying 2 = some (.int .i64) := by kernel_rfl
theorem digitsC {W : World} (hL : laidMetH Tryd.prog laidAll W) (n : Int) : Calls Tryd.prog 7 #[.int .i64 n] W fun e w' => e = .returned (.bool true) ∧ Below W.heap.size W w' := by
  letI : SymE := symOf [(.i64, n)]
  obtain ⟨t1, t2, t3, aw, hr, hM, h6, hro⟩ := start_at3 hL
  have := digits_law (E := fun _ _ => False) (n := n) rfl hM
  exact calls_true (args' := [.int .i64 n]) (fun b => rfl) this (by rw [gsz]; exact hr) (.cons (.int _ _) .nil)
theorem walkDigits {H : Type} {enc : TypeId × Value → H} {w : World} {vs : List Value} {ds : List (DataW H)} {ps : List MemPlace} (hL : laidMetH Tryd.prog laidAll w) (hA : DataW.TrodAll enc Tryd.prog w 0 (fun _ => true) true [2] vs ds ps)
    (hw : (DataW.weightsEach Tryd.prog [2] ds).all (· ≤ reachBytes) = true) (hv : ∀ (j : Nat) t v, [2][j]? = some t → vs[j]? = some v → ∃ base, Value.okWide Tryd.prog w .any base t v) :
    Calls Tryd.prog 7 vs.toArray w fun e w' => e = .returned (.bool true) ∧ Below w.heap.size w w' := by
  letI : SymE := symOf []
  obtain ⟨t1, t2, s, aw, vs', _, _, ha, hvs⟩ := args_at digOk hL (by kernel_rfl) hA hw hv
  obtain ⟨v1, r, rfl, h1, ha⟩ := ha.cons
  obtain rfl := ha.nil
  obtain ⟨a, rfl, _⟩ := h1.int und2
  cases hvs with
  | cons e1 t =>
    cases t
    obtain rfl := e1.int_inv
    exact digitsC hL a
end Go.Proofs.YtfoceofohlpafaaDoor
