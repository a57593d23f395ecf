/- machine: a closure without captured things; a function is called. -/
import Derived.Test.YtfoceofohlpafaaDoorMz1
set_option linter.unusedSectionVars false
set_option linter.unusedVariables false
set_option linter.unusedSimpArgs false
namespace Go.Proofs.Tryd
open Go Go.Am Go.RowKit
variable [SymE]
set_option maxHeartbeats 1000000
section
variable {aw0 aw : AW} {own : List Nat} {ro l Lm : List (Nat × Blk)} {m bs bf ib k f pc base w i j hb mb gb qu : Nat} {h fu gl sk fr tr ad bu mo v : Value} {fuel space most ct : Int} {E : List PanicEntry → AW → Prop} {sj fs js mj : List Value} {n ia : Int} {s : ByteArray} {st ws gs : List Nat} {BF : Blk} {Q : Unit → AW → Prop}
theorem put0_x {kind pb : Nat} {pj : List Value} (hk : kind < 256) (hk3 : kind ≠ 3) (hv : SlP 26 1 v ws.length (ws.map W ++ mj) Lm) (hst : st.length < 2 ^ 39) (hq : qu < 2 ^ 30) (hroom : ws.length + 2 ≤ qu)
    (M : Hp aw0 own ro aw ((m, MB (Pt hb) fu gl (Sl bs st.length) fr tr fuel space most ad bu mo) :: (bs, WB st sj) :: (hb, HB v (qu : Int) ct) :: (pb, WB [w] pj) :: (Lm ++ l)))
    (hQ : ∀ bs' mb aw', Hp aw0 own ro aw' ((m, MB (Pt hb) fu gl (Sl bs' (st ++ [2 * ws.length]).length) fr tr fuel space most ad bu mo) :: (bs', WB (st ++ [2 * ws.length]) []) :: (hb, HB (Sl mb (ws ++ [256 + kind] ++ [w]).length) (qu : Int) ct) :: (mb, WB (ws ++ [256 + kind] ++ [w]) []) :: l) → Q () aw') :
    CallP prog 71 [Pt m, .int .u8 (kind : Int), .int .i64 0, .slice (some ⟨pb, 0, none⟩) 1 1] aw sh71 Q E := by
  obtain ⟨q, cv, hvv⟩ := hv.val
  refine F71_ok _ _ _ _ aw ?_
  unfold S71_0
  refine slen_x ?_
  rw [show IntKind.i64.wrap (((1 : Nat) : Int) + 0) = ((1 : Nat) : Int) from rfl]
  refine need_x hk (by decide) ?_
  rw [if_neg hk3]
  have M1 := M.front (.there (.there .here))
  have M1 := M1.front (.there .here)
  subst hvv
  refine room_x M1 (by omega) (by omega) (cnd_0x rfl ?_)
  refine nck_x (fldA_x (ldV_x (M.im .here) (by repeat constructor) (slen_x ?_)))
  rw [show IntKind.i64.wrap ((st.length : Int) - 0) = ((st.length : Nat) : Int) by rw [Int.sub_zero, i64_nat (by omega)]]
  refine nck_x (fldA_x (ldV_x (M.im .here) (by repeat constructor) (nck_x (fldA_x (ldV_x (M.im .here) (by repeat constructor) ?_)))))
  refine cutV_x (a := st.length) (d := st.length) rfl rfl (Nat.le_refl _) (Nat.le_refl _) (M.im (.there .here)) rfl ?_
  rw [Nat.sub_self]
  refine app_none (src_x (cs := []) (M.im (.there .here)) (by simp) (by simp)) ?_
  refine again_x (M.im .here) (by repeat constructor) ?_
  have M2 : Hp aw0 own ro aw (Lm ++ ((hb, HB (.slice q ws.length cv) (qu : Int) ct) :: (pb, WB [w] pj) :: (m, MB (Pt hb) fu gl (Sl bs st.length) fr tr fuel space most ad bu mo) :: (bs, WB st sj) :: l)) := M.perm (by
    classical exact List.perm_iff_count.2 fun a => by simp only [List.count_append, List.count_cons]; ac_rfl)
  refine hput_x (ps := [w]) (np := 1) (kr := 0) (prs := []) hv M2 rfl (by decide) .nil rfl (by decide) hk hk3 hq (by omega) fun mb aw1 M3 => ?_
  have M4 := ((M3.front (.there (.there (.there (.there .here))))).front (.there (.there (.there (.there .here)))))
  refine nck_x (fldA_x (ldV_x (M4.im .here) (by repeat constructor) ?_))
  refine cutV_x (a := 0) (d := st.length) rfl rfl (Nat.zero_le _) (Nat.le_refl _) (M4.im (.there .here)) rfl ?_
  refine nck_x (fldA_x (st_x M4 .here (by repeat constructor) rfl rfl rfl fun aw2 M5 => ?_))
  refine push_x M5 (by omega) fun bs' aw3 M6 => ?_
  have M7 := M6.drop (.there (.there (.there (.there .here))))
  have M8 := ((M7.front (.there (.there (.there .here)))).front (.there (.there .here))).front (.there (.there .here))
  exact hQ bs' mb aw3 M8
end
end Go.Proofs.Tryd
