/- The document's answer for arith; contracts. -/
import Derived.Test.YtjllbchfojonhaaDoorB5
import Derived.Test.YtjllbchfojonhaaDoorTabs
import Derived.Lib.Mul64
namespace Go.Proofs.YtjllbchfojonhaaDoor
open Go.RowKit
set_option linter.unusedVariables false
set_option linter.unusedSimpArgs false
theorem inI_iff {n : Int} : inI n = true ↔ (-9223372036854775808 ≤ n ∧ n ≤ 9223372036854775807) := by simp [inI]
theorem inI_no {n : Int} : inI n = false ↔ (n < -9223372036854775808 ∨ 9223372036854775807 < n) := by
 simp [inI]; omega

theorem wrap64_eq (n : Int) : wrap64 n = (n + 9223372036854775808) % 18446744073709551616 - 9223372036854775808 := by unfold wrap64; rfl

theorem u64_of_neg {a : Int} (ha : inI a = true) (h : a < 0) : IntKind.u64.wrap (-IntKind.u64.wrap a) = (a.natAbs : Int) := by
 rw [inI_iff] at ha
 rw [IntKind.wrap_u64, IntKind.wrap_u64]
 omega
theorem u64_of_pos {a : Int} (ha : inI a = true) (h : 0 ≤ a) : IntKind.u64.wrap a = (a.natAbs : Int) := by
 rw [inI_iff] at ha
 rw [IntKind.wrap_u64]
 omega

theorem wrap64_id {n : Int} (h : inI n = true) : wrap64 n = n := by
 rw [inI_iff] at h; rw [wrap64_eq]; omega

theorem mul_same {a b : Int} (h : (a < 0 ∧ b < 0) ∨ (0 ≤ a ∧ 0 ≤ b)) : ((a.natAbs * b.natAbs : Nat) : Int) = a * b := by
 rw [Int.natCast_mul]
 rcases h with ⟨h1, h2⟩ | ⟨h1, h2⟩
 ·rw [show (a.natAbs : Int) = -a by omega, show (b.natAbs : Int) = -b by omega, Int.neg_mul_neg]
 ·rw [show (a.natAbs : Int) = a by omega, show (b.natAbs : Int) = b by omega]
theorem mul_other {a b : Int} (h : (a < 0 ∧ 0 ≤ b) ∨ (0 ≤ a ∧ b < 0)) : ((a.natAbs * b.natAbs : Nat) : Int) = -(a * b) := by
 rw [Int.natCast_mul]
 rcases h with ⟨h1, h2⟩ | ⟨h1, h2⟩
 ·rw [show (a.natAbs : Int) = -a by omega, show (b.natAbs : Int) = b by omega, Int.neg_mul]
 ·rw [show (a.natAbs : Int) = a by omega, show (b.natAbs : Int) = -b by omega, Int.mul_neg]

theorem ret_twoi {k j : IntKind} {a b c d : Int} (h : a = b) (h' : c = d) : Ending.returned (.tuple #[.int k a, .int j c]) = .returned (.tuple #[.int k b, .int j d]) := by rw [h, h']
theorem reffits0_eq (a b : Int) (ha : inI a = true) (hb : inI b = true) : inI (a + b) = (!(decide (0 < b) && decide (wrap64 (9223372036854775807 - b) < a)) && !(decide (b < 0) && decide (a < wrap64 (-9223372036854775808 - b)))) := by
 rw [inI_iff] at ha hb
 rw [Bool.eq_iff_iff, inI_iff, wrap64_eq, wrap64_eq]
 simp
 omega
theorem reffits1_eq (a b : Int) (ha : inI a = true) (hb : inI b = true) : inI (a - b) = (!(decide (b < 0) && decide (wrap64 (9223372036854775807 + b) < a)) && !(decide (0 < b) && decide (a < wrap64 (-9223372036854775808 + b)))) := by
 rw [inI_iff] at ha hb
 rw [Bool.eq_iff_iff, inI_iff, wrap64_eq, wrap64_eq]
 simp
 omega

set_option maxHeartbeats 1000000 in
theorem reffits_0 (a b : Int) (w : World) (ha : inI a = true) (hb : inI b = true) :
  Calls Tryd.prog 112 #[.int .i64 0, .int .i64 a, .int .i64 b] w fun e w' => e = .returned (.bool (inI (a + b))) ∧ w = w' := by
 have H := kept (reffits0_eq a b ha hb)
 clear ha hb
 rcases Bool.eq_false_or_eq_true (decide (0 < b)) with h1 | h1 <;> rcases Bool.eq_false_or_eq_true (decide (b < 0)) with h2 | h2
 ·simp at h1 h2; omega
 ·rcases Bool.eq_false_or_eq_true (decide (wrap64 (9223372036854775807 - b) < a)) with h3 | h3
  all_goals
   go_enter Tryd.func112, Tryd.ntmps112
   go_wp2
   go_ret
   exact ⟨ret_bool (by rw [H.out]; simp [h1, h2, h3]), rfl⟩
 ·rcases Bool.eq_false_or_eq_true (decide (a < wrap64 (-9223372036854775808 - b))) with h3 | h3
  all_goals
   go_enter Tryd.func112, Tryd.ntmps112
   go_wp2
   go_ret
   exact ⟨ret_bool (by rw [H.out]; simp [h1, h2, h3]), rfl⟩
 ·go_enter Tryd.func112, Tryd.ntmps112
  go_wp2
  go_ret
  exact ⟨ret_bool (by rw [H.out]; simp [h1, h2]), rfl⟩

set_option maxHeartbeats 1000000 in
theorem reffits_1 (a b : Int) (w : World) (ha : inI a = true) (hb : inI b = true) :
  Calls Tryd.prog 112 #[.int .i64 1, .int .i64 a, .int .i64 b] w fun e w' => e = .returned (.bool (inI (a - b))) ∧ w = w' := by
 have H := kept (reffits1_eq a b ha hb)
 clear ha hb
 rcases Bool.eq_false_or_eq_true (decide (0 < b)) with h1 | h1 <;> rcases Bool.eq_false_or_eq_true (decide (b < 0)) with h2 | h2
 ·simp at h1 h2; omega
 ·rcases Bool.eq_false_or_eq_true (decide (a < wrap64 (-9223372036854775808 + b))) with h3 | h3
  all_goals
   go_enter Tryd.func112, Tryd.ntmps112
   go_wp2
   go_ret
   exact ⟨ret_bool (by rw [H.out]; simp [h1, h2, h3]), rfl⟩
 ·rcases Bool.eq_false_or_eq_true (decide (wrap64 (9223372036854775807 + b) < a)) with h3 | h3
  all_goals
   go_enter Tryd.func112, Tryd.ntmps112
   go_wp2
   go_ret
   exact ⟨ret_bool (by rw [H.out]; simp [h1, h2, h3]), rfl⟩
 ·go_enter Tryd.func112, Tryd.ntmps112
  go_wp2
  go_ret
  exact ⟨ret_bool (by rw [H.out]; simp [h1, h2]), rfl⟩

theorem reffits2_zero (a b : Int) (h : a = 0 ∨ b = 0) : inI (a * b) = true := by
 rw [inI_iff]
 rcases h with rfl | rfl <;> simp

theorem div_fit {a b : Int} (L : Nat) (hb : 1 ≤ (b.natAbs : Int)) : decide ((a.natAbs : Int) ≤ (L : Int) / (b.natAbs : Int)) = decide (a.natAbs * b.natAbs ≤ L) := by
 have h : 0 < b.natAbs := by omega
 rw [Bool.eq_iff_iff]
 simp only [decide_eq_true_eq]
 rw [← Nat.le_div_iff_mul_le h, ← Int.natCast_ediv]
 omega
theorem mul_inI_same {a b : Int} (h : (a < 0 ∧ b < 0) ∨ (0 ≤ a ∧ 0 ≤ b)) : inI (a * b) = decide (a.natAbs * b.natAbs ≤ 9223372036854775807) := by
 have e := mul_same h
 rw [Bool.eq_iff_iff, inI_iff]
 generalize a.natAbs * b.natAbs = n at *
 simp
 omega
theorem mul_inI_other {a b : Int} (h : (a < 0 ∧ 0 ≤ b) ∨ (0 ≤ a ∧ b < 0)) : inI (a * b) = decide (a.natAbs * b.natAbs ≤ 9223372036854775808) := by
 have e := mul_other h
 rw [Bool.eq_iff_iff, inI_iff]
 generalize a.natAbs * b.natAbs = n at *
 simp
 omega

set_option maxHeartbeats 1000000 in
theorem reffits_2 (a b : Int) (w : World) (ha : inI a = true) (hb : inI b = true) :
  Calls Tryd.prog 112 #[.int .i64 2, .int .i64 a, .int .i64 b] w fun e w' => e = .returned (.bool (inI (a * b))) ∧ w = w' := by
 rcases Bool.eq_false_or_eq_true (a == 0) with h1 | h1
 ·have ha0 : a = 0 := by simpa using h1
  have H := kept (reffits2_zero a b (.inl ha0))
  clear ha hb ha0
  go_enter Tryd.func112, Tryd.ntmps112
  go_wp2
  go_ret
  exact ⟨ret_bool (by rw [H.out]), rfl⟩
 rcases Bool.eq_false_or_eq_true (b == 0) with h2 | h2
 ·have hb0 : b = 0 := by simpa using h2
  have H := kept (reffits2_zero a b (.inr hb0))
  clear ha hb hb0
  go_enter Tryd.func112, Tryd.ntmps112
  go_wp2
  go_ret
  exact ⟨ret_bool (by rw [H.out]), rfl⟩
 have hb1 : 1 ≤ (b.natAbs : Int) := by
  have : b ≠ 0 := by simpa using h2
  omega
 have hb2 : ((b.natAbs : Int) == 0) = false := by simp; simpa using h2
 rcases Bool.eq_false_or_eq_true (decide (a < 0)) with h3 | h3 <;> rcases Bool.eq_false_or_eq_true (decide (b < 0)) with h4 | h4
 ·have ea := u64_of_neg ha (by simpa using h3)
  have eb := u64_of_neg hb (by simpa using h4)
  clear ha hb
  go_enter Tryd.func112, Tryd.ntmps112
  go_wp2
  go_ret
  simp at h3 h4
  exact ⟨ret_bool ((div_fit 9223372036854775807 hb1).trans (mul_inI_same (by omega)).symm), rfl⟩
 ·have ea := u64_of_neg ha (by simpa using h3)
  have eb := u64_of_pos hb (by simpa using h4)
  clear ha hb
  go_enter Tryd.func112, Tryd.ntmps112
  go_wp2
  go_ret
  simp at h3 h4
  exact ⟨ret_bool ((div_fit 9223372036854775808 hb1).trans (mul_inI_other (by omega)).symm), rfl⟩
 ·have ea := u64_of_pos ha (by simpa using h3)
  have eb := u64_of_neg hb (by simpa using h4)
  clear ha hb
  go_enter Tryd.func112, Tryd.ntmps112
  go_wp2
  go_ret
  simp at h3 h4
  exact ⟨ret_bool ((div_fit 9223372036854775808 hb1).trans (mul_inI_other (by omega)).symm), rfl⟩
 ·have ea := u64_of_pos ha (by simpa using h3)
  have eb := u64_of_pos hb (by simpa using h4)
  clear ha hb
  go_enter Tryd.func112, Tryd.ntmps112
  go_wp2
  go_ret
  simp at h3 h4
  exact ⟨ret_bool ((div_fit 9223372036854775807 hb1).trans (mul_inI_same (by omega)).symm), rfl⟩

theorem wrap64_u64 (n : Int) : wrap64 (IntKind.u64.wrap n) = wrap64 n := by
 rw [IntKind.wrap_u64, wrap64_eq, wrap64_eq]; omega
theorem wrap64_mul (a b : Int) : wrap64 (IntKind.u64.wrap (IntKind.u64.wrap a * IntKind.u64.wrap b)) = wrap64 (a * b) := by
 rw [wrap64_u64, IntKind.wrap_u64, IntKind.wrap_u64, wrap64_eq, wrap64_eq]
 have h := Int.mul_emod a b 18446744073709551616
 have h2 := Int.mul_emod (a % 18446744073709551616) (b % 18446744073709551616) 18446744073709551616
 simp only [Int.emod_emod_of_dvd, Int.dvd_refl] at h2
 omega

theorem refwrap_0 (a b : Int) (w : World) : Calls Tryd.prog 102 #[.int .i64 0, .int .i64 a, .int .i64 b] w fun e w' => e = .returned (.int .i64 (wrap64 (a + b))) ∧ w = w' := by
 go_enter Tryd.func102, Tryd.ntmps102
 go_wp2
 go_ret
 exact ⟨ret_int (by rw [wrap64_u64, IntKind.wrap_u64, IntKind.wrap_u64, wrap64_eq, wrap64_eq]; omega), rfl⟩
theorem refwrap_1 (a b : Int) (w : World) : Calls Tryd.prog 102 #[.int .i64 1, .int .i64 a, .int .i64 b] w fun e w' => e = .returned (.int .i64 (wrap64 (a - b))) ∧ w = w' := by
 go_enter Tryd.func102, Tryd.ntmps102
 go_wp2
 go_ret
 exact ⟨ret_int (by rw [wrap64_u64, IntKind.wrap_u64, IntKind.wrap_u64, wrap64_eq, wrap64_eq]; omega), rfl⟩
theorem refwrap_2 (a b : Int) (w : World) : Calls Tryd.prog 102 #[.int .i64 2, .int .i64 a, .int .i64 b] w fun e w' => e = .returned (.int .i64 (wrap64 (a * b))) ∧ w = w' := by
 go_enter Tryd.func102, Tryd.ntmps102
 go_wp2
 go_ret
 exact ⟨ret_int (wrap64_mul a b), rfl⟩

theorem tmod_eq (a b : Int) (ha : inI a = true) : wrap64 (a - wrap64 (wrap64 (a.tdiv b) * b)) = a.tmod b := by
 rw [inI_iff] at ha
 have h := Int.mul_tdiv_add_tmod a b
 have hr : -9223372036854775808 ≤ a.tmod b ∧ a.tmod b ≤ 9223372036854775807 := by
  rcases Int.le_total 0 a with h0 | h0
  ·have h1 := Int.tmod_nonneg b h0
   have h2 : (a.tmod b).natAbs ≤ a.natAbs := by rw [Int.natAbs_tmod]; exact Nat.mod_le _ _
   omega
  ·have e : a.tmod b = -((-a).tmod b) := by rw [Int.neg_tmod]; omega
   have h1 := Int.tmod_nonneg b (show 0 ≤ -a by omega)
   have h2 : (a.tmod b).natAbs ≤ a.natAbs := by rw [Int.natAbs_tmod]; exact Nat.mod_le _ _
   omega
 have e1 : wrap64 (wrap64 (a.tdiv b) * b) = wrap64 (a.tdiv b * b) := by
  rw [wrap64_eq (a.tdiv b), wrap64_eq, wrap64_eq]
  have := Int.mul_emod ((a.tdiv b + 9223372036854775808) % 18446744073709551616 - 9223372036854775808) b 18446744073709551616
  have k := Int.mul_emod (a.tdiv b) b 18446744073709551616
  have e : ((a.tdiv b + 9223372036854775808) % 18446744073709551616 - 9223372036854775808) % 18446744073709551616 = a.tdiv b % 18446744073709551616 := by omega
  rw [e, ← k] at this
  omega
 rw [Int.mul_comm] at h
 rw [e1, wrap64_eq, wrap64_eq]
 omega

theorem refdiv_any (a b : Int) (w : World) (ha : inI a = true) (hb : ¬ b = 0) :
  Calls Tryd.prog 103 #[.int .i64 a, .int .i64 b] w fun e w' => e = .returned (.tuple #[.int .i64 (wrap64 (a.tdiv b)), .int .i64 (a.tmod b)]) ∧ ∃ n, w' = w.drewN n := by
 have hb' : (b == 0) = false := by simpa using hb
 by_cases h1 : b = -1
 ·subst h1
  go_enter Tryd.func103, Tryd.ntmps103
  go_wp2
  go_ret2
  exact ⟨ret_twoi (by rw [wrap64_u64, IntKind.wrap_u64, wrap64_eq, wrap64_eq, Int.tdiv_neg, Int.tdiv_one]; omega) (by simp), 0, rfl⟩
 ·have h1' : (b == -1) = false := by simpa using h1
  have H := kept (tmod_eq a b ha)
  clear ha
  go_enter Tryd.func103, Tryd.ntmps103
  go_wp2
  go_quiet (fail)
  go_wp2
  go_ret2
  exact ⟨ret_twoi rfl H.out, _, rfl⟩

theorem wrapI_eq (n : Int) : wrapI n = wrap64 n := by rw [wrap64_eq]; rfl
theorem refdiv_keep (a b : Int) (w : World) (ha : inI a = true) (hb : ¬ b = 0) : Calls Tryd.prog 103 #[.int .i64 a, .int .i64 b] w fun e w' => e = .returned (.tuple #[.int .i64 (wrap64 (a.tdiv b)), .int .i64 (a.tmod b)]) ∧ Keeps w w' [] :=
 (refdiv_any a b w ha hb).mono fun e w' ⟨h1, n, h2⟩ => ⟨h1, by rw [h2]; exact (Keeps.refl w []).drewN n⟩
end Go.Proofs.YtjllbchfojonhaaDoor
