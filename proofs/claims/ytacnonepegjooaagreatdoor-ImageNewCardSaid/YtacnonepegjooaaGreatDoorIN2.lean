/- ImageNew: what is known of a quota is true. -/
import Derived.Test.YtacnonepegjooaaGreatDoorIN1
import Derived.Test.YtacnonepegjooaaGreatDoorL5
set_option linter.unusedSectionVars false
set_option linter.unusedVariables false
set_option linter.unusedSimpArgs false
set_option maxRecDepth 100000
namespace Go.Proofs.YtacnonepegjooaaGreatDoor
open Go Go.Am Go.Ri Go.Oc
def kQ (i : Nat) : IntKind := if i < 10 then .i64 else if i < 20 then .u64 else if i = 30 ∨ i = 36 ∨ i = 37 ∨ i = 38 then .u32 else .u8
def vQ (q s : Nat) : Nat → Nat
  | 0 => q
  | 1 => q - 2
  | 2 => q - 4
  | 3 => q - 6
  | 4 => q - 8
  | 5 => q - 10
  | 6 => q - 12
  | 7 => q - 14
  | 10 => q
  | 11 => q / 256
  | 12 => q / 65536
  | 13 => q / 256 * 256
  | 14 => q % 256
  | 15 => q / 65536 * 256
  | 16 => q / 256 % 256
  | 20 => q % 256
  | 21 => q / 256 % 256
  | 22 => q / 65536 % 256
  | 30 => s
  | 31 => s % 256
  | 32 => s / 256 % 256
  | 33 => s / 65536 % 256
  | 34 => s / 16777216 % 256
  | 36 => s / 256
  | 37 => s / 65536
  | 38 => s / 16777216
  | _ => 0
@[reducible] def symQ (q s : Nat) : SymE := ⟨fun i => .int (kQ i) (.ofNat (vQ q s i)), fun i => .inl ⟨_, _, rfl⟩⟩
section
variable {k k2 : IntKind} {a b c j : Nat}
theorem dk (k : IntKind) : decide (k = k) = true := decide_eq_true rfl
theorem lssF (h : ¬ a < b) : bin0 .lss (.int k (.ofNat a)) (.int k (.ofNat b)) = some (.bool false) := by
  simp only [bin0, binI, dk, cond_true, ar]; congr 2; simp; omega
theorem gtrT (h : b < a) : bin0 .gtr (.int k (.ofNat a)) (.int k (.ofNat b)) = some (.bool true) := by
  simp only [bin0, binI, dk, cond_true, ar]; congr 2; simp; omega
theorem gtrF (h : ¬ b < a) : bin0 .gtr (.int k (.ofNat a)) (.int k (.ofNat b)) = some (.bool false) := by
  simp only [bin0, binI, dk, cond_true, ar]; congr 2; simp; omega
theorem leqT (h : a ≤ b) : bin0 .leq (.int k (.ofNat a)) (.int k (.ofNat b)) = some (.bool true) := by
  simp only [bin0, binI, dk, cond_true, ar]; congr 2; simp; omega
theorem eqlF (h : a ≠ b) : bin0 .eql (.int k (.ofNat a)) (.int k (.ofNat b)) = some (.bool false) := by
  simp only [bin0, binI, dk, cond_true, ar]; congr 2; simp; omega
theorem neqF : bin0 .neq (.int k (.ofNat a)) (.int k (.ofNat a)) = some (.bool false) := by
  simp only [bin0, binI, dk, cond_true, ar]; simp
theorem subN (h1 : b ≤ a ∧ a < 9223372036854775808) (h : a - b = c) : bin0 .sub (.int .i64 (.ofNat a)) (.int .i64 (.ofNat b)) = some (.int .i64 (.ofNat c)) := by
  haveI : SymE := symOf []
  simp only [bin0, binI, dk, cond_true, ar]
  rw [fw_eq]
  have e : (Int.ofNat a - Int.ofNat b) = ((c : Nat) : Int) := by simp only [Int.ofNat_eq_natCast]; omega
  rw [e, i64_in (by omega) (by omega)]; rfl
theorem shrN (h : a / 2 ^ (min j k.bits) = c) : bin0 .shr (.int k (.ofNat a)) (.int k2 (.ofNat j)) = some (.int k (.ofNat c)) := by
  subst h; rfl
theorem shlN (h1 : a * 256 < 18446744073709551616) (h : a * 256 = c) : bin0 .shl (.int .u64 (.ofNat a)) (.int .u64 (.ofNat 8)) = some (.int .u64 (.ofNat c)) := by
  haveI : SymE := symOf []
  have e : bin0 .shl (.int .u64 (.ofNat a)) (.int .u64 (.ofNat 8)) = some (.int .u64 (fw .u64 (.ofNat (a * 256)))) := rfl
  rw [e, fw_eq, h]
  show some (Value.int .u64 (IntKind.u64.wrap ((c : Nat) : Int))) = _
  rw [u64_nat (by omega)]; rfl
theorem orZ (h : a < 18446744073709551616) : bin0 .or (.int .u64 (.ofNat 0)) (.int .u64 (.ofNat a)) = some (.int .u64 (.ofNat a)) := by
  haveI : SymE := symOf []
  simp only [bin0, binI, dk, cond_true, ar]
  rw [bo_eq]
  have e := or_nat (m := 0) (n := a) (by omega) h
  rw [Nat.zero_or] at e
  show some (Value.int .u64 (bitsOf .or .u64 ((0 : Nat) : Int) ((a : Nat) : Int))) = _
  rw [e]; rfl
theorem orN (h1 : a * 256 < 18446744073709551616) (h2 : b < 256) (h : a * 256 + b = c) : bin0 .or (.int .u64 (.ofNat (a * 256))) (.int .u64 (.ofNat b)) = some (.int .u64 (.ofNat c)) := by
  haveI : SymE := symOf []
  simp only [bin0, binI, dk, cond_true, ar]
  rw [bo_eq]
  have e := or_nat (m := a * 256) (n := b) h1 (by omega)
  have e2 := Nat.two_pow_add_eq_or_of_lt (i := 8) (b := b) (by omega) a
  have e3 : a * 256 ||| b = c := by
    rw [Nat.mul_comm a 256, ← e2, ← h]; omega
  rw [e3] at e
  show some (Value.int .u64 (bitsOf .or .u64 ((a * 256 : Nat) : Int) ((b : Nat) : Int))) = _
  rw [e]; rfl
theorem cU8 : conv0 .u8 (.int k (.ofNat a)) = some (.int .u8 (.ofNat (a % 256))) := by
  haveI : SymE := symOf []
  show some (Value.int .u8 (fw .u8 (.ofNat a))) = _
  rw [fw_eq]
  show some (Value.int .u8 (IntKind.u8.wrap ((a : Nat) : Int))) = _
  rw [u8_nat]; rfl
theorem cU64 (h1 : a < 18446744073709551616) (h : a = c) : conv0 .u64 (.int k (.ofNat a)) = some (.int .u64 (.ofNat c)) := by
  haveI : SymE := symOf []
  subst h
  show some (Value.int .u64 (fw .u64 (.ofNat a))) = _
  rw [fw_eq]
  show some (Value.int .u64 (IntKind.u64.wrap ((a : Nat) : Int))) = _
  rw [u64_nat (by omega)]; rfl
theorem cI64 (h1 : a < 9223372036854775808) (h : a = c) : conv0 .i64 (.int k (.ofNat a)) = some (.int .i64 (.ofNat c)) := by
  haveI : SymE := symOf []
  subst h
  show some (Value.int .i64 (fw .i64 (.ofNat a))) = _
  rw [fw_eq]
  show some (Value.int .i64 (IntKind.i64.wrap ((a : Nat) : Int))) = _
  rw [i64_in (by omega) (by omega)]; rfl
end
theorem okQ1 {q s : Nat} (h1 : 16 ≤ q) (h2 : q < 256) : @Facts.ok (symQ q s) FQ1 :=
  @Facts.ok.mk (symQ q s) FQ1
    (List.forall_mem_cons.2 ⟨lssF (k := .i64) (a := q) (b := 1) (by omega),
    List.forall_mem_cons.2 ⟨gtrF (k := .i64) (a := q) (b := 1048576) (by omega),
    List.forall_mem_cons.2 ⟨lssF (k := .i64) (a := q) (b := 16) (by omega),
    List.forall_mem_cons.2 ⟨subN (a := q) (b := 0) (c := q) (by omega) (by omega),
    List.forall_mem_cons.2 ⟨subN (a := q) (b := 2) (c := (q - 2)) (by omega) (by omega),
    List.forall_mem_cons.2 ⟨subN (a := q) (b := 4) (c := (q - 4)) (by omega) (by omega),
    List.forall_mem_cons.2 ⟨subN (a := q) (b := 6) (c := (q - 6)) (by omega) (by omega),
    List.forall_mem_cons.2 ⟨subN (a := q) (b := 8) (c := (q - 8)) (by omega) (by omega),
    List.forall_mem_cons.2 ⟨subN (a := q) (b := 10) (c := (q - 10)) (by omega) (by omega),
    List.forall_mem_cons.2 ⟨subN (a := q) (b := 12) (c := (q - 12)) (by omega) (by omega),
    List.forall_mem_cons.2 ⟨subN (a := q) (b := 14) (c := (q - 14)) (by omega) (by omega),
    List.forall_mem_cons.2 ⟨gtrF (k := .i64) (a := 2) (b := q) (by omega),
    List.forall_mem_cons.2 ⟨gtrF (k := .i64) (a := 2) (b := (q - 2)) (by omega),
    List.forall_mem_cons.2 ⟨gtrF (k := .i64) (a := 2) (b := (q - 4)) (by omega),
    List.forall_mem_cons.2 ⟨gtrF (k := .i64) (a := 2) (b := (q - 6)) (by omega),
    List.forall_mem_cons.2 ⟨gtrF (k := .i64) (a := 2) (b := (q - 8)) (by omega),
    List.forall_mem_cons.2 ⟨gtrF (k := .i64) (a := 2) (b := (q - 10)) (by omega),
    List.forall_mem_cons.2 ⟨gtrF (k := .i64) (a := 2) (b := (q - 12)) (by omega),
    List.forall_mem_cons.2 ⟨gtrF (k := .i64) (a := 2) (b := (q - 14)) (by omega),
    List.forall_mem_cons.2 ⟨leqT (k := .i64) (a := 2) (b := q) (by omega),
    List.forall_mem_cons.2 ⟨leqT (k := .i64) (a := 2) (b := (q - 2)) (by omega),
    List.forall_mem_cons.2 ⟨leqT (k := .i64) (a := 2) (b := (q - 4)) (by omega),
    List.forall_mem_cons.2 ⟨leqT (k := .i64) (a := 2) (b := (q - 6)) (by omega),
    List.forall_mem_cons.2 ⟨leqT (k := .i64) (a := 2) (b := (q - 8)) (by omega),
    List.forall_mem_cons.2 ⟨leqT (k := .i64) (a := 2) (b := (q - 10)) (by omega),
    List.forall_mem_cons.2 ⟨leqT (k := .i64) (a := 2) (b := (q - 12)) (by omega),
    List.forall_mem_cons.2 ⟨leqT (k := .i64) (a := 2) (b := (q - 14)) (by omega),
    List.forall_mem_cons.2 ⟨shrN (k := .u64) (k2 := .i64) (a := q) (j := 0) (c := q) (by show q / 1 = q; omega),
    List.forall_mem_cons.2 ⟨gtrT (k := .u64) (a := q) (b := 0) (by omega),
    List.forall_mem_cons.2 ⟨shrN (k := .u32) (k2 := .u64) (a := s) (j := 8) (c := (s / 256)) (by show s / 256 = (s / 256); omega),
    List.forall_mem_cons.2 ⟨shrN (k := .u32) (k2 := .u64) (a := s) (j := 16) (c := (s / 65536)) (by show s / 65536 = (s / 65536); omega),
    List.forall_mem_cons.2 ⟨shrN (k := .u32) (k2 := .u64) (a := s) (j := 24) (c := (s / 16777216)) (by show s / 16777216 = (s / 16777216); omega),
    List.forall_mem_cons.2 ⟨gtrF (k := .u64) (a := q) (b := 1048576) (by omega),
    List.forall_mem_cons.2 ⟨gtrF (k := .i64) (a := 16) (b := q) (by omega),
    List.forall_mem_cons.2 ⟨shrN (k := .u64) (k2 := .i64) (a := q) (j := 8) (c := 0) (by show q / 256 = 0; omega),
    List.forall_mem_cons.2 ⟨eqlF (k := .u8) (a := (q % 256)) (b := 0) (by omega),
    List.forall_mem_cons.2 ⟨orZ (a := q) (by omega),
    List.forall_mem_cons.2 ⟨neqF (k := .u8) (a := (q % 256)),
    List.forall_mem_cons.2 ⟨neqF (k := .u8) (a := (s % 256)),
    List.forall_mem_cons.2 ⟨neqF (k := .u8) (a := (s / 256 % 256)),
    List.forall_mem_cons.2 ⟨neqF (k := .u8) (a := (s / 65536 % 256)),
    List.forall_mem_cons.2 ⟨neqF (k := .u8) (a := (s / 16777216 % 256)),
    (fun _ h => by cases h)⟩⟩⟩⟩⟩⟩⟩⟩⟩⟩⟩⟩⟩⟩⟩⟩⟩⟩⟩⟩⟩⟩⟩⟩⟩⟩⟩⟩⟩⟩⟩⟩⟩⟩⟩⟩⟩⟩⟩⟩⟩⟩)
    (fun _ h => by cases h)
    (List.forall_mem_cons.2 ⟨cU64 (k := .i64) (a := q) (c := q) (by omega) (by omega),
    List.forall_mem_cons.2 ⟨cU8 (k := .u64) (a := q),
    List.forall_mem_cons.2 ⟨cU8 (k := .u32) (a := s),
    List.forall_mem_cons.2 ⟨cU8 (k := .u32) (a := (s / 256)),
    List.forall_mem_cons.2 ⟨cU8 (k := .u32) (a := (s / 65536)),
    List.forall_mem_cons.2 ⟨cU8 (k := .u32) (a := (s / 16777216)),
    List.forall_mem_cons.2 ⟨cI64 (k := .u64) (a := q) (c := q) (by omega) (by omega),
    List.forall_mem_cons.2 ⟨cU64 (k := .u8) (a := (q % 256)) (c := q) (by omega) (by omega),
    (fun _ h => by cases h)⟩⟩⟩⟩⟩⟩⟩⟩)
    (fun _ h => by cases h)
theorem okQ2 {q s : Nat} (h1 : 256 ≤ q) (h2 : q < 65536) : @Facts.ok (symQ q s) FQ2 :=
  @Facts.ok.mk (symQ q s) FQ2
    (List.forall_mem_cons.2 ⟨lssF (k := .i64) (a := q) (b := 1) (by omega),
    List.forall_mem_cons.2 ⟨gtrF (k := .i64) (a := q) (b := 1048576) (by omega),
    List.forall_mem_cons.2 ⟨lssF (k := .i64) (a := q) (b := 16) (by omega),
    List.forall_mem_cons.2 ⟨subN (a := q) (b := 0) (c := q) (by omega) (by omega),
    List.forall_mem_cons.2 ⟨subN (a := q) (b := 2) (c := (q - 2)) (by omega) (by omega),
    List.forall_mem_cons.2 ⟨subN (a := q) (b := 4) (c := (q - 4)) (by omega) (by omega),
    List.forall_mem_cons.2 ⟨subN (a := q) (b := 6) (c := (q - 6)) (by omega) (by omega),
    List.forall_mem_cons.2 ⟨subN (a := q) (b := 8) (c := (q - 8)) (by omega) (by omega),
    List.forall_mem_cons.2 ⟨subN (a := q) (b := 10) (c := (q - 10)) (by omega) (by omega),
    List.forall_mem_cons.2 ⟨subN (a := q) (b := 12) (c := (q - 12)) (by omega) (by omega),
    List.forall_mem_cons.2 ⟨subN (a := q) (b := 14) (c := (q - 14)) (by omega) (by omega),
    List.forall_mem_cons.2 ⟨gtrF (k := .i64) (a := 2) (b := q) (by omega),
    List.forall_mem_cons.2 ⟨gtrF (k := .i64) (a := 2) (b := (q - 2)) (by omega),
    List.forall_mem_cons.2 ⟨gtrF (k := .i64) (a := 2) (b := (q - 4)) (by omega),
    List.forall_mem_cons.2 ⟨gtrF (k := .i64) (a := 2) (b := (q - 6)) (by omega),
    List.forall_mem_cons.2 ⟨gtrF (k := .i64) (a := 2) (b := (q - 8)) (by omega),
    List.forall_mem_cons.2 ⟨gtrF (k := .i64) (a := 2) (b := (q - 10)) (by omega),
    List.forall_mem_cons.2 ⟨gtrF (k := .i64) (a := 2) (b := (q - 12)) (by omega),
    List.forall_mem_cons.2 ⟨gtrF (k := .i64) (a := 2) (b := (q - 14)) (by omega),
    List.forall_mem_cons.2 ⟨leqT (k := .i64) (a := 2) (b := q) (by omega),
    List.forall_mem_cons.2 ⟨leqT (k := .i64) (a := 2) (b := (q - 2)) (by omega),
    List.forall_mem_cons.2 ⟨leqT (k := .i64) (a := 2) (b := (q - 4)) (by omega),
    List.forall_mem_cons.2 ⟨leqT (k := .i64) (a := 2) (b := (q - 6)) (by omega),
    List.forall_mem_cons.2 ⟨leqT (k := .i64) (a := 2) (b := (q - 8)) (by omega),
    List.forall_mem_cons.2 ⟨leqT (k := .i64) (a := 2) (b := (q - 10)) (by omega),
    List.forall_mem_cons.2 ⟨leqT (k := .i64) (a := 2) (b := (q - 12)) (by omega),
    List.forall_mem_cons.2 ⟨leqT (k := .i64) (a := 2) (b := (q - 14)) (by omega),
    List.forall_mem_cons.2 ⟨shrN (k := .u64) (k2 := .i64) (a := q) (j := 0) (c := q) (by show q / 1 = q; omega),
    List.forall_mem_cons.2 ⟨gtrT (k := .u64) (a := q) (b := 0) (by omega),
    List.forall_mem_cons.2 ⟨shrN (k := .u32) (k2 := .u64) (a := s) (j := 8) (c := (s / 256)) (by show s / 256 = (s / 256); omega),
    List.forall_mem_cons.2 ⟨shrN (k := .u32) (k2 := .u64) (a := s) (j := 16) (c := (s / 65536)) (by show s / 65536 = (s / 65536); omega),
    List.forall_mem_cons.2 ⟨shrN (k := .u32) (k2 := .u64) (a := s) (j := 24) (c := (s / 16777216)) (by show s / 16777216 = (s / 16777216); omega),
    List.forall_mem_cons.2 ⟨gtrF (k := .u64) (a := q) (b := 1048576) (by omega),
    List.forall_mem_cons.2 ⟨gtrF (k := .i64) (a := 16) (b := q) (by omega),
    List.forall_mem_cons.2 ⟨shrN (k := .u64) (k2 := .i64) (a := q) (j := 8) (c := (q / 256)) (by show q / 256 = (q / 256); omega),
    List.forall_mem_cons.2 ⟨gtrT (k := .u64) (a := (q / 256)) (b := 0) (by omega),
    List.forall_mem_cons.2 ⟨shrN (k := .u64) (k2 := .i64) (a := q) (j := 16) (c := 0) (by show q / 65536 = 0; omega),
    List.forall_mem_cons.2 ⟨eqlF (k := .u8) (a := (q / 256 % 256)) (b := 0) (by omega),
    List.forall_mem_cons.2 ⟨orZ (a := (q / 256)) (by omega),
    List.forall_mem_cons.2 ⟨shlN (a := (q / 256)) (c := (q / 256 * 256)) (by omega) (by omega),
    List.forall_mem_cons.2 ⟨orN (a := q / 256) (b := (q % 256)) (c := q) (by omega) (by omega) (by omega),
    List.forall_mem_cons.2 ⟨neqF (k := .u8) (a := (q % 256)),
    List.forall_mem_cons.2 ⟨neqF (k := .u8) (a := (s % 256)),
    List.forall_mem_cons.2 ⟨neqF (k := .u8) (a := (s / 256 % 256)),
    List.forall_mem_cons.2 ⟨neqF (k := .u8) (a := (s / 65536 % 256)),
    List.forall_mem_cons.2 ⟨neqF (k := .u8) (a := (s / 16777216 % 256)),
    List.forall_mem_cons.2 ⟨neqF (k := .u8) (a := (q / 256 % 256)),
    (fun _ h => by cases h)⟩⟩⟩⟩⟩⟩⟩⟩⟩⟩⟩⟩⟩⟩⟩⟩⟩⟩⟩⟩⟩⟩⟩⟩⟩⟩⟩⟩⟩⟩⟩⟩⟩⟩⟩⟩⟩⟩⟩⟩⟩⟩⟩⟩⟩⟩⟩)
    (fun _ h => by cases h)
    (List.forall_mem_cons.2 ⟨cU64 (k := .i64) (a := q) (c := q) (by omega) (by omega),
    List.forall_mem_cons.2 ⟨cU8 (k := .u64) (a := q),
    List.forall_mem_cons.2 ⟨cU8 (k := .u32) (a := s),
    List.forall_mem_cons.2 ⟨cU8 (k := .u32) (a := (s / 256)),
    List.forall_mem_cons.2 ⟨cU8 (k := .u32) (a := (s / 65536)),
    List.forall_mem_cons.2 ⟨cU8 (k := .u32) (a := (s / 16777216)),
    List.forall_mem_cons.2 ⟨cI64 (k := .u64) (a := q) (c := q) (by omega) (by omega),
    List.forall_mem_cons.2 ⟨cU8 (k := .u64) (a := (q / 256)),
    List.forall_mem_cons.2 ⟨cU64 (k := .u8) (a := (q / 256 % 256)) (c := (q / 256)) (by omega) (by omega),
    List.forall_mem_cons.2 ⟨cU64 (k := .u8) (a := (q % 256)) (c := (q % 256)) (by omega) (by omega),
    (fun _ h => by cases h)⟩⟩⟩⟩⟩⟩⟩⟩⟩⟩)
    (fun _ h => by cases h)
theorem okQ3 {q s : Nat} (h1 : 65536 ≤ q) (h2 : q ≤ 1048576) : @Facts.ok (symQ q s) FQ3 :=
  @Facts.ok.mk (symQ q s) FQ3
    (List.forall_mem_cons.2 ⟨lssF (k := .i64) (a := q) (b := 1) (by omega),
    List.forall_mem_cons.2 ⟨gtrF (k := .i64) (a := q) (b := 1048576) (by omega),
    List.forall_mem_cons.2 ⟨lssF (k := .i64) (a := q) (b := 16) (by omega),
    List.forall_mem_cons.2 ⟨subN (a := q) (b := 0) (c := q) (by omega) (by omega),
    List.forall_mem_cons.2 ⟨subN (a := q) (b := 2) (c := (q - 2)) (by omega) (by omega),
    List.forall_mem_cons.2 ⟨subN (a := q) (b := 4) (c := (q - 4)) (by omega) (by omega),
    List.forall_mem_cons.2 ⟨subN (a := q) (b := 6) (c := (q - 6)) (by omega) (by omega),
    List.forall_mem_cons.2 ⟨subN (a := q) (b := 8) (c := (q - 8)) (by omega) (by omega),
    List.forall_mem_cons.2 ⟨subN (a := q) (b := 10) (c := (q - 10)) (by omega) (by omega),
    List.forall_mem_cons.2 ⟨subN (a := q) (b := 12) (c := (q - 12)) (by omega) (by omega),
    List.forall_mem_cons.2 ⟨subN (a := q) (b := 14) (c := (q - 14)) (by omega) (by omega),
    List.forall_mem_cons.2 ⟨gtrF (k := .i64) (a := 2) (b := q) (by omega),
    List.forall_mem_cons.2 ⟨gtrF (k := .i64) (a := 2) (b := (q - 2)) (by omega),
    List.forall_mem_cons.2 ⟨gtrF (k := .i64) (a := 2) (b := (q - 4)) (by omega),
    List.forall_mem_cons.2 ⟨gtrF (k := .i64) (a := 2) (b := (q - 6)) (by omega),
    List.forall_mem_cons.2 ⟨gtrF (k := .i64) (a := 2) (b := (q - 8)) (by omega),
    List.forall_mem_cons.2 ⟨gtrF (k := .i64) (a := 2) (b := (q - 10)) (by omega),
    List.forall_mem_cons.2 ⟨gtrF (k := .i64) (a := 2) (b := (q - 12)) (by omega),
    List.forall_mem_cons.2 ⟨gtrF (k := .i64) (a := 2) (b := (q - 14)) (by omega),
    List.forall_mem_cons.2 ⟨leqT (k := .i64) (a := 2) (b := q) (by omega),
    List.forall_mem_cons.2 ⟨leqT (k := .i64) (a := 2) (b := (q - 2)) (by omega),
    List.forall_mem_cons.2 ⟨leqT (k := .i64) (a := 2) (b := (q - 4)) (by omega),
    List.forall_mem_cons.2 ⟨leqT (k := .i64) (a := 2) (b := (q - 6)) (by omega),
    List.forall_mem_cons.2 ⟨leqT (k := .i64) (a := 2) (b := (q - 8)) (by omega),
    List.forall_mem_cons.2 ⟨leqT (k := .i64) (a := 2) (b := (q - 10)) (by omega),
    List.forall_mem_cons.2 ⟨leqT (k := .i64) (a := 2) (b := (q - 12)) (by omega),
    List.forall_mem_cons.2 ⟨leqT (k := .i64) (a := 2) (b := (q - 14)) (by omega),
    List.forall_mem_cons.2 ⟨shrN (k := .u64) (k2 := .i64) (a := q) (j := 0) (c := q) (by show q / 1 = q; omega),
    List.forall_mem_cons.2 ⟨gtrT (k := .u64) (a := q) (b := 0) (by omega),
    List.forall_mem_cons.2 ⟨shrN (k := .u32) (k2 := .u64) (a := s) (j := 8) (c := (s / 256)) (by show s / 256 = (s / 256); omega),
    List.forall_mem_cons.2 ⟨shrN (k := .u32) (k2 := .u64) (a := s) (j := 16) (c := (s / 65536)) (by show s / 65536 = (s / 65536); omega),
    List.forall_mem_cons.2 ⟨shrN (k := .u32) (k2 := .u64) (a := s) (j := 24) (c := (s / 16777216)) (by show s / 16777216 = (s / 16777216); omega),
    List.forall_mem_cons.2 ⟨gtrF (k := .u64) (a := q) (b := 1048576) (by omega),
    List.forall_mem_cons.2 ⟨gtrF (k := .i64) (a := 16) (b := q) (by omega),
    List.forall_mem_cons.2 ⟨shrN (k := .u64) (k2 := .i64) (a := q) (j := 8) (c := (q / 256)) (by show q / 256 = (q / 256); omega),
    List.forall_mem_cons.2 ⟨gtrT (k := .u64) (a := (q / 256)) (b := 0) (by omega),
    List.forall_mem_cons.2 ⟨shrN (k := .u64) (k2 := .i64) (a := q) (j := 16) (c := (q / 65536)) (by show q / 65536 = (q / 65536); omega),
    List.forall_mem_cons.2 ⟨gtrT (k := .u64) (a := (q / 65536)) (b := 0) (by omega),
    List.forall_mem_cons.2 ⟨shrN (k := .u64) (k2 := .i64) (a := q) (j := 24) (c := 0) (by show q / 16777216 = 0; omega),
    List.forall_mem_cons.2 ⟨eqlF (k := .u8) (a := (q / 65536 % 256)) (b := 0) (by omega),
    List.forall_mem_cons.2 ⟨orZ (a := (q / 65536)) (by omega),
    List.forall_mem_cons.2 ⟨shlN (a := (q / 65536)) (c := (q / 65536 * 256)) (by omega) (by omega),
    List.forall_mem_cons.2 ⟨orN (a := q / 65536) (b := (q / 256 % 256)) (c := (q / 256)) (by omega) (by omega) (by omega),
    List.forall_mem_cons.2 ⟨shlN (a := (q / 256)) (c := (q / 256 * 256)) (by omega) (by omega),
    List.forall_mem_cons.2 ⟨orN (a := q / 256) (b := (q % 256)) (c := q) (by omega) (by omega) (by omega),
    List.forall_mem_cons.2 ⟨neqF (k := .u8) (a := (q % 256)),
    List.forall_mem_cons.2 ⟨neqF (k := .u8) (a := (s % 256)),
    List.forall_mem_cons.2 ⟨neqF (k := .u8) (a := (s / 256 % 256)),
    List.forall_mem_cons.2 ⟨neqF (k := .u8) (a := (s / 65536 % 256)),
    List.forall_mem_cons.2 ⟨neqF (k := .u8) (a := (s / 16777216 % 256)),
    List.forall_mem_cons.2 ⟨neqF (k := .u8) (a := (q / 256 % 256)),
    List.forall_mem_cons.2 ⟨neqF (k := .u8) (a := (q / 65536 % 256)),
    (fun _ h => by cases h)⟩⟩⟩⟩⟩⟩⟩⟩⟩⟩⟩⟩⟩⟩⟩⟩⟩⟩⟩⟩⟩⟩⟩⟩⟩⟩⟩⟩⟩⟩⟩⟩⟩⟩⟩⟩⟩⟩⟩⟩⟩⟩⟩⟩⟩⟩⟩⟩⟩⟩⟩⟩)
    (fun _ h => by cases h)
    (List.forall_mem_cons.2 ⟨cU64 (k := .i64) (a := q) (c := q) (by omega) (by omega),
    List.forall_mem_cons.2 ⟨cU8 (k := .u64) (a := q),
    List.forall_mem_cons.2 ⟨cU8 (k := .u32) (a := s),
    List.forall_mem_cons.2 ⟨cU8 (k := .u32) (a := (s / 256)),
    List.forall_mem_cons.2 ⟨cU8 (k := .u32) (a := (s / 65536)),
    List.forall_mem_cons.2 ⟨cU8 (k := .u32) (a := (s / 16777216)),
    List.forall_mem_cons.2 ⟨cI64 (k := .u64) (a := q) (c := q) (by omega) (by omega),
    List.forall_mem_cons.2 ⟨cU8 (k := .u64) (a := (q / 256)),
    List.forall_mem_cons.2 ⟨cU8 (k := .u64) (a := (q / 65536)),
    List.forall_mem_cons.2 ⟨cU64 (k := .u8) (a := (q / 65536 % 256)) (c := (q / 65536)) (by omega) (by omega),
    List.forall_mem_cons.2 ⟨cU64 (k := .u8) (a := (q / 256 % 256)) (c := (q / 256 % 256)) (by omega) (by omega),
    List.forall_mem_cons.2 ⟨cU64 (k := .u8) (a := (q % 256)) (c := (q % 256)) (by omega) (by omega),
    (fun _ h => by cases h)⟩⟩⟩⟩⟩⟩⟩⟩⟩⟩⟩⟩)
    (fun _ h => by cases h)
end Go.Proofs.YtacnonepegjooaaGreatDoor
