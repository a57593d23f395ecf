/- MachineMoves: the run of its code. -/
import Derived.Test.YtfoceofohlpafaaDoorMy1
set_option linter.unusedVariables false
set_option linter.unusedSimpArgs false
set_option linter.unusedSectionVars false
set_option maxRecDepth 100000
namespace Go.Proofs.YtfoceofohlpafaaDoor
open Go Go.Am Go.RowKit Go.Ri Go.Proofs.Tryd
abbrev gN (tn : Bool) : Nat := if tn then 7 else 2
def mcV (s : ByteArray) : List (Bool × Int) → List Value
  | [] => []
  | x :: r => stepC (.string s) (.int .i64 ((gN x.1 : Nat) : Int)) (.int .i64 x.2) ++ mcV s r
theorem mcV_len (s : ByteArray) : ∀ ls, (mcV s ls).length = ls.length * 32
  | [] => rfl
  | x :: r => by simp only [mcV, List.length_append, mcV_len s r, List.length_cons, List.length_nil]; omega
theorem mcV_app (s : ByteArray) : ∀ a b, mcV s (a ++ b) = mcV s a ++ mcV s b
  | [], _ => rfl
  | x :: r, b => by simp only [List.cons_append, mcV, mcV_app s r, List.append_assoc]
theorem mcV_at {s : ByteArray} {a b : List (Bool × Int)} {x : Bool × Int} {tail : List Value} {r : Nat} (hr : r < 8) : ((mcV s (a ++ x :: b) ++ tail).drop ((8 * a.length + r) * 4)).take 4 = ((stepC (.string s) (.int .i64 ((gN x.1 : Nat) : Int)) (.int .i64 x.2)).drop (r * 4)).take 4 := by
  rw [mcV_app, List.append_assoc, List.drop_append, mcV_len, List.drop_of_length_le (by rw [mcV_len]; omega), List.nil_append, show (8 * a.length + r) * 4 - a.length * 32 = r * 4 by omega]
  show ((stepC _ _ _ ++ mcV s b ++ tail).drop (r * 4)).take 4 = _
  rw [List.append_assoc, List.drop_append_of_le_length (by show r * 4 ≤ 32; omega), List.take_append_of_le_length (by rw [List.length_drop]; show 4 ≤ 32 - r * 4; omega)]
theorem mcV_last {s : ByteArray} {ls : List (Bool × Int)} {r : Nat} : ((mcV s ls ++ lastC).drop ((8 * ls.length + r) * 4)).take 4 = (lastC.drop (r * 4)).take 4 := by
  rw [List.drop_append, mcV_len, List.drop_of_length_le (by rw [mcV_len]; omega), List.nil_append, show (8 * ls.length + r) * 4 - ls.length * 32 = r * 4 by omega]
def rep (s : List UInt8) : Nat → List UInt8
  | 0 => []
  | t + 1 => rep s t ++ s
theorem rep_step (s : List UInt8) (t : Nat) : (rep s t).take 50 ++ s.take (50 - ((rep s t).take 50).length) = (rep s (t + 1)).take 50 := by
  rw [rep, List.take_append, List.length_take]
  congr 2
  omega
abbrev mvs (ls : List (Bool × Int)) : List (Bool × Int) := ls.map fun x => (x.1, Nw ((WN x.2 : Nat) : Int))
variable [SymE]
section
variable {aw0 aw : AW} {own : List Nat} {ro l : List (Nat × Blk)} {cb hb mb m b1 b2 b3 rb tb fb gb p nc k : Nat} {E : List PanicEntry → AW → Prop} {Q : (Int × Int × ByteArray × ByteArray × Value × Int × Value) → AW → Prop} {s : List UInt8} {ls : List (Bool × Int)}
abbrev CBM (s : List UInt8) (ls : List (Bool × Int)) : Blk := ⟨mcV (mkB s) ls ++ lastC, 34, 4, true, 0⟩
theorem hw_pre (R : List Nat) {i : Nat} (hi : i < 16) : (hw 8 ++ R)[i]? = (hw 8)[i]? := List.getElem?_append_left hi
theorem goM (hs : s.length ≤ 200) (hn : ls.length ≤ 14) (hnc : nc = 8 * ls.length + 2)
    (hOK : ls.length ≤ 10 → ∀ mo Lm B ws mb aw', MovB mo (mvs ls) Lm → Hp aw0 own ro aw' ((m, B) :: HL hb mb ws 4000 ((cb, CBM s ls) :: (Lm ++ l))) → Q (0, ((WN 0 : Nat) : Int), ⟨#[]⟩, mkB ((rep s ls.length).take 50), mo, 100 - 2 * (ls.length : Int), Pt m) aw')
    (hE : 10 < ls.length → ∀ fu mo Lm B ws mb aw', MovB mo (mvs (ls.take 10)) Lm → Hp aw0 own ro aw' ((m, B) :: HL hb mb ws 4000 ((cb, CBM s ls) :: (Lm ++ l))) → Q (9, 0, ⟨#[109, 111, 118, 101, 115]⟩, mkB ((rep s 11).take 50), mo, fu, Pt m) aw') :
    ∀ (b a : List (Bool × Int)) (ad bu mo : Value) (Lb Lm : List (Nat × Blk)) (R : List Nat) (mb : Nat) (aw : AW), a ++ b = ls → a.length ≤ 10 → AdOk m ad → OutB bu ((rep s a.length).take 50) Lb → MovB mo (mvs a) Lm → R.length ≤ 26 * a.length →
      MM aw0 own ro (MO m hb fb gb ad bu mo) [WN 0, WN 0] [(0, 8 * a.length, 1)] (100 - 2 * (a.length : Int)) (HL hb mb (hw 8 ++ R) 4000 (LL m b1 b2 b3 rb tb (RL fb gb p cb nc UNK (CBM s ls) (Lb ++ (Lm ++ l))))) aw →
      S35_1 (Q35 (QR Q m p) E m tb rb (0 + 1)) E (8 * b.length + 2 + 1) (Pt b1) (Pt b2) (Pt b3) aw
  | [], a, ad, bu, mo, Lb, Lm, R, mb, aw, hab, ha, had, hB, hM, hR, H => by
    rw [List.append_nil] at hab
    subst hab
    have hC : CodeAt ro (HL hb mb (hw 8 ++ R) 4000 (LL m b1 b2 b3 rb tb (RL fb gb p cb nc UNK (CBM s a) (Lb ++ (Lm ++ l))))) (Sl fb 1) 0 nc (mcV (mkB s) a ++ lastC) := codeL
    refine mm_int (fs := []) (pc := 8 * a.length) H (hC.ins (by omega) (by omega) (mcV_last (r := 0))) sbL (by decide) (by decide) fun aw1 H1 => ?_
    refine mm_ret (fs := []) (pc := 8 * a.length + 1) (st := [WN 0, WN 0]) H1 (hC.ins (by omega) (by omega) (mcV_last (r := 1))) sbL (by decide) (by decide) (by decide) (by decide) fun aw2 H2 => ?_
    have hmo : one mo = true := by obtain ⟨q, c, hv⟩ := hM.val; rw [hv]; rfl
    exact endO (k := 0) (n2 := 0) hB (by rw [List.length_take]; omega) hmo H2 fun B aw3 M => hOK ha mo Lm B _ mb aw3 hM M
  | x :: b, a, ad, bu, mo, Lb, Lm, R, mb, aw, hab, ha, had, hB, hM, hR, H => by
    have hlen : ls.length = a.length + (b.length + 1) := by rw [← hab]; simp
    have hl0 : (hw 8).length = 16 := rfl
    have hla := txt_len (mkB s)
    rw [mkB_size] at hla
    have hI : ∀ {mb : Nat} {ws : List Nat} {l' : List (Nat × Blk)} (r : Nat), r < 8 → ∀ {op : Nat} {n a' : Int} {q : ByteArray}, ((stepC (.string (mkB s)) (.int .i64 ((gN x.1 : Nat) : Int)) (.int .i64 x.2)).drop (r * 4)).take 4 = IC op n a' q → InsAt ro (HL hb mb ws 4000 (LL m b1 b2 b3 rb tb (RL fb gb p cb nc UNK (CBM s ls) l'))) (Sl fb 1) 0 (8 * a.length + r) op n a' q := by
      intro mb ws l' r hr op n a' q h
      refine codeL.ins (by omega) (by omega) ?_
      rw [← hab, mcV_at hr]
      exact h
    have hgl : ∀ {mb : Nat} {ws : List Nat} {l' : List (Nat × Blk)}, At (HL hb mb ws 4000 (LL m b1 b2 b3 rb tb (RL fb gb p cb nc UNK (CBM s ls) l'))) gb (WB (gw 8) []) := .there (.there (.there (.there (.there (.there (.there (.there .here)))))))
    have eight : 8 * (x :: b).length + 2 + 1 = (8 * b.length + 2 + 1) + 8 := by simp; omega
    rw [eight]
    refine mm_glob (fs := []) (pc := 8 * a.length) (i := 4) (w := 16) (gs := gw 8) H (hI 0 (by decide) rfl) sbL (by decide) (by decide) rfl hgl rfl rfl fun aw1 H1 => ?_
    refine mm_text (fs := []) (pc := 8 * a.length + 1) (s := mkB s) H1 (hI 1 (by decide) rfl) sbL (by decide) (by decide) (by rw [mkB_size]; omega) (by decide) (by rw [List.length_append, hl0, mkB_size]; omega) fun mb2 aw2 H2 => ?_
    have hwl : (hw 8 ++ R ++ txt (mkB s)).length < 2 ^ 50 := by rw [List.length_append, List.length_append, hl0, hla]; omega
    have hT : TxtAt (hw 8 ++ R ++ txt (mkB s)) (hw 8 ++ R).length (mkB s) := TxtAt.last (by rw [mkB_size]; omega)
    have H2' : MM aw0 own ro (MO m hb fb gb ad bu mo) ([WN 0, WN 0] ++ [2 * 8] ++ [2 * (hw 8 ++ R).length]) ([] ++ [(0, 8 * a.length + 2, 1)]) (100 - 2 * (a.length : Int)) (Lb ++ HL hb mb2 (hw 8 ++ R ++ txt (mkB s)) 4000 (LL m b1 b2 b3 rb tb (RL fb gb p cb nc UNK (CBM s ls) (Lm ++ l)))) aw2 := H2.perm (by
      classical exact List.perm_iff_count.2 fun a => by simp only [List.count_cons, List.count_append, HL, LL, RL]; omega)
    refine mm_print (n := 0) (a := 0) (t := ⟨#[]⟩) (fs := []) (pc := 8 * a.length + 2) (st := [WN 0, WN 0]) (j := 8) H2' ?_ (At.app sbL) (by decide) (by decide) (by omega) (by omega) ?_ ?_ hT hwl hs had hB (by rw [List.length_take]; omega) fun bu' Lb' aw3 hB' H3 => ?_
    · have hC : CodeAt ro (HL hb mb2 (hw 8 ++ R ++ txt (mkB s)) 4000 (LL m b1 b2 b3 rb tb (RL fb gb p cb nc UNK (CBM s ls) (Lm ++ l)))) (Sl fb 1) 0 nc (mcV (mkB s) ls ++ lastC) := codeL
      refine (hC.app (L := Lb)).ins (op := 7) (n := 0) (a := 0) (s := ⟨#[]⟩) (by omega) (by omega) ?_
      rw [← hab, mcV_at (by decide)]; rfl
    · rw [List.append_assoc, hw_pre _ (by decide)]; rfl
    · rw [List.append_assoc, hw_pre _ (by decide)]; rfl
    rw [rep_step] at hB'
    have H3' : MM aw0 own ro (MO m hb fb gb (.pointer (some ⟨m, 9, none⟩)) bu' mo) ([WN 0, WN 0] ++ [WN 0]) ([] ++ [(0, 8 * a.length + 3, 1)]) (100 - 2 * (a.length : Int) - 1) (HL hb mb2 (hw 8 ++ R ++ txt (mkB s)) 4000 (LL m b1 b2 b3 rb tb (RL fb gb p cb nc UNK (CBM s ls) (Lb' ++ (Lm ++ l))))) aw3 := H3.perm (by
      classical exact List.perm_iff_count.2 fun a => by simp only [List.count_cons, List.count_append, HL, LL, RL]; omega)
    refine mm_pop (fs := []) (pc := 8 * a.length + 3) H3' (hI 3 (by decide) rfl) sbL (by decide) (by decide) fun aw4 H4 => ?_
    refine mm_glob (fs := []) (pc := 8 * a.length + 4) (i := gN x.1) (w := 2 * (2 * gN x.1)) (gs := gw 8) H4 (hI 4 (by decide) rfl) sbL (by decide) (by decide) rfl hgl rfl (by cases x.1 <;> rfl) fun aw5 H5 => ?_
    refine mm_int (fs := []) (pc := 8 * a.length + 5) H5 (hI 5 (by decide) rfl) sbL (by decide) (by simp) fun aw6 H6 => ?_
    have H6' : MM aw0 own ro (MO m hb fb gb (.pointer (some ⟨m, 9, none⟩)) bu' mo) ([WN 0, WN 0] ++ [2 * (2 * gN x.1)] ++ [WN x.2]) ([] ++ [(0, 8 * a.length + 6, 1)]) (100 - 2 * (a.length : Int) - 1) (Lm ++ HL hb mb2 (hw 8 ++ R ++ txt (mkB s)) 4000 (LL m b1 b2 b3 rb tb (RL fb gb p cb nc UNK (CBM s ls) (Lb' ++ l)))) aw6 := H6.perm (by
      classical exact List.perm_iff_count.2 fun a => by simp only [List.count_cons, List.count_append, HL, LL, RL]; omega)
    have hml : (mvs a).length = a.length := by simp
    refine mm_move (n := 0) (a := 0) (t := ⟨#[]⟩) (fs := []) (pc := 8 * a.length + 6) (st := [WN 0, WN 0]) (j := 2 * gN x.1) (tn := x.1) H6' ?_ (At.app sbL) (by decide) (by decide) (by omega) (by omega) ?_ ?_ hwl hM (by omega) (fun h10 st' fs' aw7 H7 => ?_) fun h10 mo' Lm' aw7 hM' H7 => ?_
    · have hC : CodeAt ro (HL hb mb2 (hw 8 ++ R ++ txt (mkB s)) 4000 (LL m b1 b2 b3 rb tb (RL fb gb p cb nc UNK (CBM s ls) (Lb' ++ l)))) (Sl fb 1) 0 nc (mcV (mkB s) ls ++ lastC) := codeL
      refine (hC.app (L := Lm)).ins (op := 7) (n := 0) (a := 0) (s := ⟨#[]⟩) (by omega) (by omega) ?_
      rw [← hab, mcV_at (by decide)]; rfl
    · rw [List.append_assoc, hw_pre _ (by cases x.1 <;> decide)]; cases x.1 <;> rfl
    · rw [List.append_assoc, hw_pre _ (by cases x.1 <;> decide)]; cases x.1 <;> rfl
    · have ea : a.length = 10 := by omega
      have H7' : MM aw0 own ro (MO m hb fb gb (.pointer (some ⟨m, 9, none⟩)) bu' mo) st' fs' (100 - 2 * (a.length : Int) - 1 - 1) (HL hb mb2 (hw 8 ++ R ++ txt (mkB s)) 4000 (LL m b1 b2 b3 rb tb (RL fb gb p cb nc UNK (CBM s ls) (Lb' ++ (Lm ++ l))))) aw7 := H7.perm (by
        classical exact List.perm_iff_count.2 fun a => by simp only [List.count_cons, List.count_append, HL, LL, RL]; omega)
      have hmo : one mo = true := by obtain ⟨q, c, hv⟩ := hM.val; rw [hv]; rfl
      have et : ls.take 10 = a := by rw [← hab, ← ea]; simp
      refine endRaiseO (n2 := 0) hB' (by rw [List.length_take]; omega) hmo H7' fun B aw8 M => ?_
      have := hE (by omega) (100 - 2 * (a.length : Int) - 1 - 1) mo Lm B _ mb2 aw8 (by rw [et]; exact hM) M
      rw [ea] at this ⊢
      exact this
    · have H7' : MM aw0 own ro (MO m hb fb gb (.pointer (some ⟨m, 9, none⟩)) bu' mo') ([WN 0, WN 0] ++ [WN 0]) ([] ++ [(0, 8 * a.length + 7, 1)]) (100 - 2 * (a.length : Int) - 1 - 1) (HL hb mb2 (hw 8 ++ R ++ txt (mkB s)) 4000 (LL m b1 b2 b3 rb tb (RL fb gb p cb nc UNK (CBM s ls) (Lb' ++ (Lm' ++ l))))) aw7 := H7.perm (by
        classical exact List.perm_iff_count.2 fun a => by simp only [List.count_cons, List.count_append, HL, LL, RL]; omega)
      refine mm_pop (fs := []) (pc := 8 * a.length + 7) H7' (hI 7 (by decide) rfl) sbL (by decide) (by decide) fun aw8 H8 => ?_
      have e8 : (a ++ [x]).length = a.length + 1 := by simp
      refine goM hs hn hnc hOK hE b (a ++ [x]) _ bu' mo' Lb' Lm' (R ++ txt (mkB s)) mb2 aw8 (by rw [← hab]; simp) (by rw [e8]; omega) (.inr rfl) (by rw [e8]; exact hB') (by rw [show mvs (a ++ [x]) = mvs a ++ [(x.1, Nw ((WN x.2 : Nat) : Int))] by simp]; exact hM') (by rw [e8, List.length_append, hla]; omega) ?_
      rw [e8, ← List.append_assoc, show (100 : Int) - 2 * ((a.length + 1 : Nat) : Int) = 100 - 2 * (a.length : Int) - 1 - 1 by omega]
      exact H8
end
end Go.Proofs.YtfoceofohlpafaaDoor
