/- BallotReads. -/
import Derived.Test.YtfdfakapkhflcaaBaS7
import Derived.Test.YtfdfakapkhflcaaBaS8
import Derived.Test.YtfdfakapkhflcaaBaD
set_option linter.unusedSimpArgs false
set_option linter.unusedVariables false
set_option linter.unusedSectionVars false
namespace Go.Proofs.Try
open Go Go.Am Go.RowKit Go.Oc
variable [SymE]
theorem reads_x (hA : Awk) {aw0 : AW} {v : Value} {bs : List UInt8} (hG : prog.globals.size ≤ aw0.next) (hv : ∃ q c, v = .slice q bs.length c) (hR : 4 ≤ bs.length → Rs aw0 [] [] [] v bs) : CallP prog 4 [v] aw0 sh4 (fun r _ => r = true) (fun _ _ => False) := by
  refine F4_ok _ aw0 ?_
  unfold S4_0
  refine hA _ _ _ hG (cnd_0x rfl ?_)
  have hlen : ∀ {X : Int → Prop}, X (bs.length : Int) → slen v X := by obtain ⟨q, c, rfl⟩ := hv; exact fun h => slen_x h
  refine hlen ?_
  unfold S4_1
  by_cases hl : 5000 < bs.length
  · exact cnd_1x (decide_eq_true (by omega)) (hA _ _ _ hG rfl)
  refine cnd_0x (decide_eq_false (by omega)) ?_
  refine decode_x (hp0 aw0) hv hR (fun p hp => by cases hp) (by omega) fun ev dv S1 aw1 he hd o1 o2 M1 => ?_
  refine alc_x M1 fun b1 aw2 M2 => st_x M2 .here (by repeat constructor) rfl rfl (by simp only [List.all_cons, List.all_nil, o1, o2, Bool.and_true]; rfl) fun aw3 M3 => ?_
  have M3 : Hp aw0 [] [] aw3 ((b1, MBk (decA bs).1 ev dv) :: (S1 ++ [])) := M3
  refine r_decode_x M3 hv hR (fun p hp => by cases hp) (by omega) fun ev2 dv2 S2 aw4 he2 hd2 o3 o4 M4 => ?_
  refine alc_x M4 fun b2 aw5 M5 => st_x M5 .here (by repeat constructor) rfl rfl (by simp only [List.all_cons, List.all_nil, o3, o4, Bool.and_true]; rfl) fun aw6 M6 => ?_
  have M6 : Hp aw0 [] [] aw6 ((b2, NBk (decA bs).1 ev2 dv2) :: (S2 ++ ((b1, MBk (decA bs).1 ev dv) :: (S1 ++ [])))) := M6
  refine cnd_1x (decide_eq_true rfl) ?_
  have hk : (decA bs).1.es.length < 2 ^ 60 := decA_es bs
  have M7 := M6.perm (l' := (b2, NBk (decA bs).1 ev2 dv2) :: (b1, MBk (decA bs).1 ev dv) :: (S2 ++ (S1 ++ []))) (List.Perm.cons _ List.perm_middle)
  refine get_ms (m := (decA bs).1) (ev := ev) (dv := dv) (M7.m (.there .here)) rfl ?_
  have hi := M7.im .here
  refine ptr_x (gI_x hi (by repeat constructor) (gI_x hi (by repeat constructor) (gI_x hi (by repeat constructor) (gI_x hi (by repeat constructor) (gI_x hi (by repeat constructor) (gI_x hi (by repeat constructor) (gI_x hi (by repeat constructor) (gB_x hi (by repeat constructor) (gV_x hi (by repeat constructor) (gV_x hi (by repeat constructor) ?_))))))))))
  refine msg_x (m := (decA bs).1) M7 o1 o2 fun aw8 M8 => ?_
  have hj := M8.im .here
  refine get_x hj (by repeat constructor) (get_x hj (by repeat constructor) (get_x hj (by repeat constructor) (get_x hj (by repeat constructor) (get_x hj (by repeat constructor) (get_x hj (by repeat constructor) (get_x hj (by repeat constructor) (get_x hj (by repeat constructor) (get_x hj (by repeat constructor) (get_x hj (by repeat constructor) ?_)))))))))
  exact same_x (S := S1 ++ (S2 ++ [])) M8 (he.more fun p hp => by simp [hp]) (he2.more fun p hp => by
    rcases List.mem_append.1 hp with h | h
    · simp [h]
    · cases h) (hd.more fun p hp => by simp [hp]) (hd2.more fun p hp => by
    rcases List.mem_append.1 hp with h | h
    · simp [h]
    · cases h) (fun p hp => by
    rcases List.mem_append.1 hp with h | h
    · simp [h]
    · rcases List.mem_append.1 h with h | h
      · simp [h]
      · cases h) hk fun _ => rfl
end Go.Proofs.Try
