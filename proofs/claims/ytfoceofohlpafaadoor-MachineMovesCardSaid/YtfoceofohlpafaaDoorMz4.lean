/- machine: steps of a run, with a state of its own. -/
import Derived.Test.YtfoceofohlpafaaDoorMz1
set_option linter.unusedVariables false
set_option linter.unusedSimpArgs false
set_option linter.unusedSectionVars false
namespace Go.Proofs.Tryd
open Go Go.Am Go.RowKit
variable [SymE]
set_option maxHeartbeats 1000000
abbrev Fr := Nat × Nat × Nat
def frC : List Fr → List Value
  | [] => []
  | x :: r => [.int .i64 (x.1 : Int), .int .i64 (x.2.1 : Int), .int .i64 (x.2.2 : Int)] ++ frC r
theorem frC_len : ∀ fs : List Fr, (frC fs).length = fs.length * 3
  | [] => rfl
  | x :: r => by simp [frC, frC_len r]; omega
theorem frC_app : ∀ (fs gs : List Fr), frC (fs ++ gs) = frC fs ++ frC gs
  | [], _ => rfl
  | x :: r, gs => by simp [frC, frC_app r]
abbrev FRB (fs : List Fr) (fj : List Value) : Blk := ⟨frC fs ++ fj, 85, 3, true, 0⟩
theorem FRB_snoc (fs : List Fr) (f pc b : Nat) (fj : List Value) : FRB (fs ++ [(f, pc, b)]) fj = FB (frC fs) f pc b fj := by
  simp [FRB, FB, frC_app, frC]
structure MC where
  m : Nat
  hb : Nat
  fu : Value
  gl : Value
  tr : Value
  ad : Value
  bu : Value
  mo : Value
  space : Int
  most : Int
abbrev MCB (X : MC) (sk fr : Value) (fuel : Int) : Blk := MB (Pt X.hb) X.fu X.gl sk fr X.tr fuel X.space X.most X.ad X.bu X.mo
structure MM (aw0 : AW) (own : List Nat) (ro : List (Nat × Blk)) (X : MC) (st : List Nat) (fs : List Fr) (fuel : Int) (l : List (Nat × Blk)) (aw : AW) : Prop where
  ex : ∃ bs bf sj fj, Hp aw0 own ro aw ((X.m, MCB X (Sl bs st.length) (Sl bf fs.length) fuel) :: (bf, FRB fs fj) :: (bs, WB st sj) :: l)
structure InsAt (ro l : List (Nat × Blk)) (fu : Value) (f pc op : Nat) (n a : Int) (s : ByteArray) : Prop where
  ex : ∃ bu_ nf cf cb co cn cc FU CO, fu = .slice (some ⟨bu_, 0, none⟩) nf cf ∧ f < nf ∧ Here ro l bu_ FU ∧ FU.cells[f * 2 + 1]? = some (.slice (some ⟨cb, co, none⟩) cn cc) ∧ pc < cn ∧ pc < 2 ^ 40 ∧ Here ro l cb CO ∧
    CO.cells[co + pc * 4]? = some (.int .u8 (op : Int)) ∧ CO.cells[co + pc * 4 + 1]? = some (.int .i64 n) ∧ CO.cells[co + pc * 4 + 2]? = some (.int .i64 a) ∧ CO.cells[co + pc * 4 + 3]? = some (.string s)
abbrev SB (m : Nat) : Blk := ⟨[Pt m], 30, 0, true, 0⟩
section
variable {aw0 aw : AW} {own : List Nat} {ro l Lm : List (Nat × Blk)} {X : MC} {f pc base w i j op b1 b2 b3 k : Nat} {fuel : Int} {st : List Nat} {fs : List Fr} {E : List PanicEntry → AW → Prop} {Q : (Bool × Int × Int × ByteArray × ByteArray × Value × Int) → AW → Prop} {n a : Int} {s : ByteArray}
theorem mm_fetch (H : MM aw0 own ro X st (fs ++ [(f, pc, base)]) fuel l aw) (hI : InsAt ro l X.fu f pc op n a s) (hS : At l b1 (SB X.m)) (hfl : fs.length < 2 ^ 40)
    (hK : ∀ ib bs bf sj fj aw', Hp aw0 own ro aw' ((ib, IB op n a s) :: (X.m, MCB X (Sl bs st.length) (Sl bf (fs.length + 1)) fuel) :: (bf, FB (frC fs) f (pc + 1) base fj) :: (bs, WB st sj) :: l) →
      S58_1 (fun _ aw => S35_1 Q E k (Pt b1) (Pt b2) (Pt b3) aw) (fun ch aw => DK35 Q E (Pt b1) (Pt b2) (Pt b3) (.panic ch) aw) (Pt X.m) (.pointer (some ⟨bf, fs.length * 3, none⟩)) (Pt ib) (op : Int) aw') :
    S35_1 Q E (k + 1) (Pt b1) (Pt b2) (Pt b3) aw := by
  obtain ⟨bs, bf, sj, fj, M⟩ := H.ex
  rw [FRB_snoc, show (fs ++ [(f, pc, base)]).length = fs.length + 1 by simp] at M
  obtain ⟨bu_, nf, cf, cb, co, cn, cc, FU, CO, e1, h1, h2, h3, h4, h5, h6, g0, g1, g2, g3⟩ := hI.ex
  refine run_step (M.im (.there (.there (.there hS)))) (M.im .here) ?_
  have M' : Hp aw0 own ro aw ((X.m, MB (Pt X.hb) (.slice (some ⟨bu_, 0, none⟩) nf cf) X.gl (Sl bs st.length) (Sl bf (fs.length + 1)) X.tr fuel X.space X.most X.ad X.bu X.mo) :: (bf, FB (frC fs) f pc base fj) :: (bs, WB st sj) :: l) := by
    rw [← e1]; exact M
  refine fetch M' (frC_len fs) hfl h1 h2.cons h3 h4 h5 h6.cons g0 g1 g2 g3 fun ib aw' M2 => ?_
  rw [← e1] at M2
  exact hK ib bs bf sj fj aw' M2
theorem mm_int (H : MM aw0 own ro X st (fs ++ [(f, pc, base)]) fuel l aw) (hI : InsAt ro l X.fu f pc 0 n a s) (hS : At l b1 (SB X.m)) (hfl : fs.length < 2 ^ 39) (hst : st.length < 2 ^ 39)
    (hK : ∀ aw', MM aw0 own ro X (st ++ [WN n]) (fs ++ [(f, pc + 1, base)]) fuel l aw' → S35_1 Q E k (Pt b1) (Pt b2) (Pt b3) aw') : S35_1 Q E (k + 1) (Pt b1) (Pt b2) (Pt b3) aw := by
  refine mm_fetch H hI hS (by omega) fun ib bs bf sj fj aw1 M => ?_
  refine ins_int M hst fun bs' aw2 M2 => hK aw2 ⟨bs', bf, [], fj, ?_⟩
  rw [FRB_snoc, show (fs ++ [(f, pc + 1, base)]).length = fs.length + 1 by simp]; exact M2
theorem mm_glob {gb ng : Nat} {gs : List Nat} {gj : List Value} (H : MM aw0 own ro X st (fs ++ [(f, pc, base)]) fuel l aw) (hI : InsAt ro l X.fu f pc 5 (i : Int) a s) (hS : At l b1 (SB X.m)) (hfl : fs.length < 2 ^ 39) (hst : st.length < 2 ^ 39)
    (hgl : X.gl = Sl gb ng) (hg : At l gb (WB gs gj)) (hng : gs.length = ng) (hw : gs[i]? = some w)
    (hK : ∀ aw', MM aw0 own ro X (st ++ [w]) (fs ++ [(f, pc + 1, base)]) fuel l aw' → S35_1 Q E k (Pt b1) (Pt b2) (Pt b3) aw') : S35_1 Q E (k + 1) (Pt b1) (Pt b2) (Pt b3) aw := by
  refine mm_fetch H hI hS (by omega) fun ib bs bf sj fj aw1 M => ?_
  simp only [MCB] at M
  rw [hgl] at M
  refine ins_glob M hst hg hng hw fun bs' aw2 M2 => hK aw2 ⟨bs', bf, [], fj, ?_⟩
  rw [← hgl] at M2
  rw [FRB_snoc, show (fs ++ [(f, pc + 1, base)]).length = fs.length + 1 by simp]; exact M2
theorem mm_pop (H : MM aw0 own ro X (st ++ [w]) (fs ++ [(f, pc, base)]) fuel l aw) (hI : InsAt ro l X.fu f pc 19 n a s) (hS : At l b1 (SB X.m)) (hfl : fs.length < 2 ^ 39) (hst : st.length < 2 ^ 39)
    (hK : ∀ aw', MM aw0 own ro X st (fs ++ [(f, pc + 1, base)]) fuel l aw' → S35_1 Q E k (Pt b1) (Pt b2) (Pt b3) aw') : S35_1 Q E (k + 1) (Pt b1) (Pt b2) (Pt b3) aw := by
  refine mm_fetch H hI hS (by omega) fun ib bs bf sj fj aw1 M => ?_
  rw [show (st ++ [w]).length = st.length + 1 by simp] at M
  refine ins_pop M hst fun aw2 M2 => hK aw2 ⟨bs, bf, W w :: sj, fj, ?_⟩
  rw [FRB_snoc, show (fs ++ [(f, pc + 1, base)]).length = fs.length + 1 by simp]; exact M2
theorem mm_ret (H : MM aw0 own ro X (st ++ [w]) (fs ++ [(f, pc, base)]) fuel l aw) (hI : InsAt ro l X.fu f pc 8 n a s) (hS : At l b1 (SB X.m)) (hfl : fs.length < 2 ^ 39) (hst : st.length < 2 ^ 39) (hb : 1 ≤ base) (hb' : base - 1 ≤ st.length)
    (hK : ∀ aw', MM aw0 own ro X (st.take (base - 1) ++ [w]) fs fuel l aw' → S35_1 Q E k (Pt b1) (Pt b2) (Pt b3) aw') : S35_1 Q E (k + 1) (Pt b1) (Pt b2) (Pt b3) aw := by
  refine mm_fetch H hI hS (by omega) fun ib bs bf sj fj aw1 M => ?_
  rw [show (st ++ [w]).length = st.length + 1 by simp] at M
  refine ins_ret M hst (frC_len fs) (by omega) hb hb' fun bs' aw2 M2 => hK aw2 ⟨bs', bf, [], [.int .i64 (f : Int), .int .i64 ((pc + 1 : Nat) : Int), .int .i64 (base : Int)] ++ fj, ?_⟩
  rw [show FRB fs ([.int .i64 (f : Int), .int .i64 ((pc + 1 : Nat) : Int), .int .i64 (base : Int)] ++ fj) = FB (frC fs) f (pc + 1) base fj by simp [FRB, FB]]
  exact M2
end
end Go.Proofs.Tryd
