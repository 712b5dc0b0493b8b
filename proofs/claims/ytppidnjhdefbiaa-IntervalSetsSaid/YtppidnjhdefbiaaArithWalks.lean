/- The walks of the laws of layer 2 (arith). -/
import Derived.Test.YtppidnjhdefbiaaArithRef
namespace Go.Proofs.Ytppidnjhdefbiaa
open Go.RowKit

theorem inI_wf {n : Int} (h : (Lit.int .i64 n).wf = true) : inI n = true := by
  rw [inI_iff]
  simpa [Lit.wf, IntKind.min, IntKind.max, IntKind.signed, IntKind.bits] using h

theorem below_draws (w : World) (n : Nat) : Below w.heap.size w (w.drewN n) := ⟨rfl, rfl, rfl, Nat.le_refl _, fun _ _ => rfl⟩

theorem back_again (a b : Int) (ha : inI a = true) : wrap64 (wrap64 (wrap64 (a.tdiv b) * b) + a.tmod b) = a := by
  have h := tmod_eq a b ha
  rw [← h, wrap64_eq, wrap64_eq (a - _)]
  rw [inI_iff] at ha
  generalize wrap64 (wrap64 (a.tdiv b) * b) = x
  omega

set_option maxHeartbeats 1000000 in
theorem walkArithDivides (a b : Int) (wa : (Lit.int .i64 a).wf = true) (wb : (Lit.int .i64 b).wf = true) (w : World) :
    Calls Try.prog 3 #[.int .i64 a, .int .i64 b] w fun e w' => e = .returned (.bool true) ∧ Below w.heap.size w w' := by
  have ha := inI_wf wa
  by_cases hb : b = 0
  · subst hb
    clear ha wa wb
    go_enter Try.func3, Try.ntmps3
    go_wp2_with (first | (go_at_call 19; refine (arithlives _).mono ?_; rintro e w' ⟨rfl, rfl⟩) | (go_at_call 20; refine (div_0 _ _).mono ?_; rintro e w' ⟨rfl, rfl⟩) | (go_at_call 21; refine (rem_0 _ _).mono ?_; rintro e w' ⟨rfl, rfl⟩))
    go_ret
    exact ⟨rfl, Below.refl _ _⟩
  · have hb' : (b == 0) = false := by simpa using hb
    have c := kept (refdiv_any a b w ha hb)
    have h1 : (wrap64 (wrap64 (wrap64 (a.tdiv b) * b) + a.tmod b) == a) = true := by simpa using back_again a b ha
    clear ha wa wb
    go_enter Try.func3, Try.ntmps3
    go_wp2_with (first | (go_at_call 19; refine (arithlives _).mono ?_; rintro e w' ⟨rfl, rfl⟩) | (go_at_call 20; refine (div_any _ _ _ hb).mono ?_; rintro e w' ⟨rfl, rfl⟩) | (go_at_call 21; refine (rem_any _ _ _ hb).mono ?_; rintro e w' ⟨rfl, rfl⟩) | (go_at_call 22; refine c.out.mono ?_; rintro e w' ⟨rfl, nd, rfl⟩))
    go_ret
    exact ⟨rfl, below_draws _ _⟩

theorem sat_in {a s : Int} (h : inI s = true) : sat a s = s := by simp [sat, h]
theorem sat_lo {a s : Int} (h : inI s = false) (h0 : a < 0) : sat a s = -9223372036854775808 := by simp [sat, h, h0]
theorem sat_hi {a s : Int} (h : inI s = false) (h0 : ¬ a < 0) : sat a s = 9223372036854775807 := by simp [sat, h]; omega

set_option maxHeartbeats 2000000 in
theorem walkArithSat (a b : Int) (wa : (Lit.int .i64 a).wf = true) (wb : (Lit.int .i64 b).wf = true) (w : World) :
    Calls Try.prog 4 #[.int .i64 a, .int .i64 b] w fun e w' => e = .returned (.bool true) ∧ Below w.heap.size w w' := by
  have ha := inI_wf wa
  have hb := inI_wf wb
  have c0 := kept (fun w => reffits_0 a b w ha hb)
  have c1 := kept (fun w => reffits_1 a b w ha hb)
  have c2 := kept (fun w => sat_any a b w ha hb)
  have c3 := kept (fun w => satsub_any a b w ha hb)
  clear wa wb ha hb
  rcases Bool.eq_false_or_eq_true (inI (a + b)) with h1 | h1 <;> rcases Bool.eq_false_or_eq_true (inI (a - b)) with h2 | h2 <;> by_cases h3 : a < 0
  all_goals
    obtain ⟨s1, S1⟩ : ∃ s1, sat a (a + b) = s1 := ⟨_, rfl⟩
    obtain ⟨s2, S2⟩ : ∃ s2, sat a (a - b) = s2 := ⟨_, rfl⟩
    have T1 := S1
    have T2 := S2
    first | rw [sat_in h1] at T1 | rw [sat_lo h1 h3] at T1 | rw [sat_hi h1 h3] at T1
    first | rw [sat_in h2] at T2 | rw [sat_lo h2 h3] at T2 | rw [sat_hi h2 h3] at T2
    subst T1 T2
    try have i1 := wrap64_id h1
    try have i2 := wrap64_id h2
    go_enter Try.func4, Try.ntmps4
    go_wp2_with fail
    refine (arithlives _).mono ?_; rintro e w' ⟨rfl, rfl⟩
    go_wp2_with fail
    refine (c0.out _).mono ?_; rintro e w' ⟨rfl, rfl⟩
    go_wp2_with fail
    refine (c1.out _).mono ?_; rintro e w' ⟨rfl, rfl⟩
    go_wp2_with fail
    refine (c2.out _).mono ?_; rintro e w' ⟨rfl, rfl⟩
    go_wp2_with fail
    refine (c3.out _).mono ?_; rintro e w' ⟨rfl, rfl⟩
    go_wp2
    go_ret
    exact ⟨rfl, Below.refl _ _⟩

set_option maxHeartbeats 2000000 in
theorem walkArithTells (a b : Int) (wa : (Lit.int .i64 a).wf = true) (wb : (Lit.int .i64 b).wf = true) (w : World) :
    Calls Try.prog 5 #[.int .i64 a, .int .i64 b] w fun e w' => e = .returned (.bool true) ∧ Below w.heap.size w w' := by
  have ha := inI_wf wa
  have hb := inI_wf wb
  go_enter Try.func5, Try.ntmps5
  go_wp2_with fail
  refine (arithlives _).mono ?_; rintro e w' ⟨rfl, rfl⟩
  go_wp2_with fail
  refine (add_any _ _ _ ha hb).mono ?_; rintro e w' ⟨rfl, rfl⟩
  go_wp2_with fail
  refine (sub_any _ _ _ ha hb).mono ?_; rintro e w' ⟨rfl, rfl⟩
  go_wp2_with fail
  refine (mul_any _ _ _ ha hb).mono ?_; rintro e w' ⟨rfl, rfl⟩
  go_wp2_with fail
  refine (refwrap_0 _ _ _).mono ?_; rintro e w' ⟨rfl, rfl⟩
  go_wp2_with fail
  refine (reffits_0 _ _ _ ha hb).mono ?_; rintro e w' ⟨rfl, rfl⟩
  go_wp2_with fail
  refine (refwrap_1 _ _ _).mono ?_; rintro e w' ⟨rfl, rfl⟩
  go_wp2_with fail
  refine (reffits_1 _ _ _ ha hb).mono ?_; rintro e w' ⟨rfl, rfl⟩
  go_wp2_with fail
  refine (refwrap_2 _ _ _).mono ?_; rintro e w' ⟨rfl, rfl⟩
  go_wp2_with fail
  refine (reffits_2 _ _ _ ha hb).mono ?_; rintro e w' ⟨rfl, rfl⟩
  go_wp2
  go_ret
  exact ⟨rfl, Below.refl _ _⟩
