/- The law FactsPlay: the early returns, and no stack. -/
import Derived.Test.YtppidnjhdefbiaaFactsPlayInv
namespace Go.Proofs.Ytppidnjhdefbiaa
open Go.RowKit
set_option linter.unusedVariables false

set_option maxRecDepth 100000 in
set_option maxHeartbeats 8000000 in
theorem play_early (n : Int) (al : Option Addr) (ll cl : Nat) (hl : ll ≤ 9223372036854775807) (w : World) (h : 80 < ll ∨ (40 < n ∧ n ≤ 1024)) :
    Calls Try.prog 11 #[.int .i64 n, .slice al ll cl] w fun e w' => e = .returned (.bool true) ∧ Below w.heap.size w w' := by
  rcases Bool.eq_false_or_eq_true (decide ((80 : Int) < ll)) with h2 | h2
  · clear h
    go_enter Try.func11, Try.ntmps11
    go_wp2_with fail
    refine (factslives _).mono ?_
    rintro e w1 ⟨rfl, k1⟩
    go_wp2_with fail
    refine (factslives _).mono ?_
    rintro e w2 ⟨rfl, k2⟩
    go_wp2
    go_ret
    exact ⟨rfl, (Keeps.trans k1 k2).below (Nat.le_refl _) (by simp)⟩
  rcases Bool.eq_false_or_eq_true (decide (40 < n)) with h0 | h0
  · rcases Bool.eq_false_or_eq_true (decide (n ≤ 1024)) with h1 | h1
    · clear h
      go_enter Try.func11, Try.ntmps11
      go_wp2_with fail
      refine (factslives _).mono ?_
      rintro e w1 ⟨rfl, k1⟩
      go_wp2_with fail
      refine (factslives _).mono ?_
      rintro e w2 ⟨rfl, k2⟩
      go_wp2
      go_ret
      exact ⟨rfl, (Keeps.trans k1 k2).below (Nat.le_refl _) (by simp)⟩
    · simp at h0 h1 h2; omega
  · simp at h0 h2; omega

set_option maxRecDepth 100000 in
set_option maxHeartbeats 8000000 in
theorem play_nil (n : Int) (al : Option Addr) (ll cl : Nat) (hl : ll ≤ 80) (w : World) (h : n < 0 ∨ 1024 < n) :
    Calls Try.prog 11 #[.int .i64 n, .slice al ll cl] w fun e w' => e = .returned (.bool true) ∧ Below w.heap.size w w' := by
  have h2 : decide ((80 : Int) < ll) = false := by simp; omega
  have CN := kept (fun w' => new_no w' n h)
  have CF := kept (fun w' => follows_of (P := 0) none 0 (.pointer none) 0 0 w' (fun w1 => w' = w1) (least_nil w' 0 0))
  rcases Bool.eq_false_or_eq_true (decide (n < 0)) with h0 | h0
  · have h1 : decide (40 < n) = false := by simp at h0 ⊢; omega
    clear h
    go_enter Try.func11, Try.ntmps11
    go_wp2_with fail
    refine (factslives _).mono ?_
    rintro e w1 ⟨rfl, k1⟩
    go_wp2_with fail
    refine (CN.out _).mono ?_
    rintro e w' ⟨rfl, rfl⟩
    go_wp2_with fail
    refine (push_nil _).mono ?_
    rintro e w' ⟨rfl, rfl⟩
    go_wp2_with fail
    refine (least_nil _ 0 0).mono ?_
    rintro e w' ⟨rfl, rfl⟩
    go_wp2_with fail
    refine (pop_nil _).mono ?_
    rintro e w' ⟨rfl, rfl⟩
    go_wp2_with fail
    refine (add_nil _ 0 0 0).mono ?_
    rintro e w' ⟨rfl, rfl⟩
    go_wp2_with fail
    refine (CF.out _).mono ?_
    rintro e w' ⟨rfl, rfl⟩
    go_wp2_with fail
    refine (len_nil _).mono ?_
    rintro e w' ⟨rfl, rfl⟩
    go_wp2_with fail
    refine (depth_nil _).mono ?_
    rintro e w' ⟨rfl, rfl⟩
    go_wp2
    go_ret
    exact ⟨rfl, k1.below (Nat.le_refl _) (by simp)⟩
  · have h1 : decide (40 < n) = true := by simp at h0 ⊢; omega
    have h3 : decide (n ≤ 1024) = false := by simp at h0 ⊢; omega
    have h4 : decide (1024 < n) = true := by simp at h0 ⊢; omega
    clear h
    go_enter Try.func11, Try.ntmps11
    go_wp2_with fail
    refine (factslives _).mono ?_
    rintro e w1 ⟨rfl, k1⟩
    go_wp2_with fail
    refine (CN.out _).mono ?_
    rintro e w' ⟨rfl, rfl⟩
    go_wp2_with fail
    refine (push_nil _).mono ?_
    rintro e w' ⟨rfl, rfl⟩
    go_wp2_with fail
    refine (least_nil _ 0 0).mono ?_
    rintro e w' ⟨rfl, rfl⟩
    go_wp2_with fail
    refine (pop_nil _).mono ?_
    rintro e w' ⟨rfl, rfl⟩
    go_wp2_with fail
    refine (add_nil _ 0 0 0).mono ?_
    rintro e w' ⟨rfl, rfl⟩
    go_wp2_with fail
    refine (CF.out _).mono ?_
    rintro e w' ⟨rfl, rfl⟩
    go_wp2_with fail
    refine (len_nil _).mono ?_
    rintro e w' ⟨rfl, rfl⟩
    go_wp2_with fail
    refine (depth_nil _).mono ?_
    rintro e w' ⟨rfl, rfl⟩
    go_wp2
    go_ret
    exact ⟨rfl, k1.below (Nat.le_refl _) (by simp)⟩
end Go.Proofs.Ytppidnjhdefbiaa
