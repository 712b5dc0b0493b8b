/- Package interval: the contracts of the law's own helpers: lives, Is, So. -/
import Derived.Test.YtppidnjhdefbiaaIvClip
import Derived.Test.YtppidnjhdefbiaaArithRef
namespace Go.Proofs.Ytppidnjhdefbiaa
open Go.RowKit
set_option linter.unusedVariables false

theorem lives_apply : Iv.apply 4 ⟨-2, 3⟩ ⟨5, 7⟩ = ⟨-14, 21⟩ := by rfl
theorem ivlives (w : World) : Calls Try.prog 61 #[] w fun e w' => e = .returned (.bool true) ∧ Keeps w w' [] := by
  have C := kept (fun w => apply_any 4 ⟨-2, 3⟩ ⟨5, 7⟩ (by unfold Iv.Wf Iv.MIN Iv.MAX; simp) (by unfold Iv.Wf Iv.MIN Iv.MAX; simp) w)
  rw [lives_apply] at C
  go_enter Try.func61, Try.ntmps61
  go_wp2_with fail
  refine (C.out _).mono ?_
  rintro e w1 ⟨rfl, k⟩
  have K := kept k
  clear k
  go_wp2
  go_ret
  exact ⟨rfl, K.out⟩

theorem is_any (num y z : Int) (w : World) : Calls Try.prog 74 #[.int .i64 num, .int .i64 y, .int .i64 z] w fun e w' => e = .returned (.bool (Iv.is num y z)) ∧ w = w' := by
  rcases Bool.eq_false_or_eq_true (num == 0) with h0 | h0
  · have e0 : num = 0 := by simpa using h0
    subst e0
    have e : Iv.is 0 y z = decide (y < z) := rfl
    rw [e]
    clear e h0
    go_enter Try.func74, Try.ntmps74
    go_wp2
    go_ret
    exact ⟨ret_bool (by first | rfl | simp), rfl⟩
  rcases Bool.eq_false_or_eq_true (num == 1) with h1 | h1
  · have e1 : num = 1 := by simpa using h1
    subst e1
    have e : Iv.is 1 y z = decide (y ≤ z) := rfl
    rw [e]
    clear e h0 h1
    go_enter Try.func74, Try.ntmps74
    go_wp2
    go_ret
    exact ⟨ret_bool (by first | rfl | simp), rfl⟩
  rcases Bool.eq_false_or_eq_true (num == 2) with h2 | h2
  · have e2 : num = 2 := by simpa using h2
    subst e2
    have e : Iv.is 2 y z = decide (y = z) := rfl
    rw [e]
    clear e h0 h1 h2
    go_enter Try.func74, Try.ntmps74
    go_wp2
    go_ret
    exact ⟨ret_bool (by first | rfl | simp), rfl⟩
  rcases Bool.eq_false_or_eq_true (num == 3) with h3 | h3
  · have e3 : num = 3 := by simpa using h3
    subst e3
    have e : Iv.is 3 y z = decide (z ≤ y) := rfl
    rw [e]
    clear e h0 h1 h2 h3
    go_enter Try.func74, Try.ntmps74
    go_wp2
    go_ret
    exact ⟨ret_bool (by first | rfl | simp), rfl⟩
  rcases Bool.eq_false_or_eq_true (num == 4) with h4 | h4
  · have e4 : num = 4 := by simpa using h4
    subst e4
    have e : Iv.is 4 y z = decide (z < y) := rfl
    rw [e]
    clear e h0 h1 h2 h3 h4
    go_enter Try.func74, Try.ntmps74
    go_wp2
    go_ret
    exact ⟨ret_bool (by first | rfl | simp), rfl⟩
  have e : Iv.is num y z = true := by
    simp at h0 h1 h2 h3 h4
    unfold Iv.is
    rw [if_neg h0, if_neg h1, if_neg h2, if_neg h3, if_neg h4]
  rw [e]
  clear e
  go_enter Try.func74, Try.ntmps74
  go_wp2
  go_ret
  exact ⟨rfl, rfl⟩

theorem so_any (op y z : Int) (w : World) : Calls Try.prog 75 #[.int .i64 op, .int .i64 y, .int .i64 z] w fun e w' => e = .returned (.bool (Iv.so op y z)) ∧ w = w' := by
  rcases Bool.eq_false_or_eq_true (op == 7) with h7 | h7
  · have e7 : op = 7 := by simpa using h7
    subst e7
    have e : Iv.so 7 y z = decide (y = z) := rfl
    rw [e]
    clear e h7 
    go_enter Try.func75, Try.ntmps75
    go_wp2
    go_ret
    exact ⟨ret_bool (by first | rfl | simp), rfl⟩
  rcases Bool.eq_false_or_eq_true (op == 8) with h8 | h8
  · have e8 : op = 8 := by simpa using h8
    subst e8
    have e : Iv.so 8 y z = decide (y < z) := rfl
    rw [e]
    clear e h7 h8
    go_enter Try.func75, Try.ntmps75
    go_wp2
    go_ret
    exact ⟨ret_bool (by first | rfl | simp), rfl⟩
  have e : Iv.so op y z = decide (y ≤ z) := by
    simp at h7 h8
    unfold Iv.so
    rw [if_neg h7, if_neg h8]
  rw [e]
  clear e
  go_enter Try.func75, Try.ntmps75
  go_wp2
  go_ret
  exact ⟨ret_bool (by first | rfl | simp), rfl⟩

theorem has_of {r : Iv.R} {n : Int} {v : Bool} (h : Iv.has r n = v) (w : World) : Calls Try.prog 64 #[.agg #[.int .i64 r.lo, .int .i64 r.hi], .int .i64 n] w fun e w' => e = .returned (.bool v) ∧ Keeps w w' [] := by
  subst h
  exact has_any r.lo r.hi n w
theorem within_of {r s : Iv.R} {v : Bool} (h : Iv.within r s = v) (w : World) : Calls Try.prog 68 #[.agg #[.int .i64 r.lo, .int .i64 r.hi], .agg #[.int .i64 s.lo, .int .i64 s.hi]] w fun e w' => e = .returned (.bool v) ∧ Keeps w w' [] := by
  subst h
  exact within_any r s w
end Go.Proofs.Ytppidnjhdefbiaa
