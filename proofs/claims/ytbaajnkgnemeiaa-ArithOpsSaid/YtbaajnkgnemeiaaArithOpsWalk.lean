/- The walk of the law ArithOps. -/
import Derived.Test.YtbaajnkgnemeiaaArithWalks
namespace Go.Proofs.Ytbaajnkgnemeiaa
open Go.RowKit
set_option linter.unusedVariables false

set_option maxRecDepth 100000 in
set_option maxHeartbeats 2000000 in
theorem opsAdd (a b : Int) (ha : inI a = true) (hb : inI b = true) (w : World) :
    Calls Try.prog 13 #[.int .i64 2, .int .i64 a, .int .i64 b] w fun e w' => e = .returned (.bool true) ∧ Below w.heap.size w w' := by
  go_enter Try.func13, Try.ntmps13
  go_wp2_with (first | (go_at_call 19; refine (arithlives _).mono ?_; rintro e w' ⟨rfl, rfl⟩) | (go_at_call 26; refine (add_any _ _ _ ha hb).mono ?_; rintro e w' ⟨rfl, rfl⟩) | (go_at_call 29; refine (refwrap_0 _ _ _).mono ?_; rintro e w' ⟨rfl, rfl⟩) | (go_at_call 23; refine (reffits_0 _ _ _ ha hb).mono ?_; rintro e w' ⟨rfl, rfl⟩) | go_in)
  all_goals
    go_ret
    exact ⟨rfl, Below.refl _ _⟩

set_option maxRecDepth 100000 in
set_option maxHeartbeats 2000000 in
theorem opsSub (a b : Int) (ha : inI a = true) (hb : inI b = true) (w : World) :
    Calls Try.prog 13 #[.int .i64 3, .int .i64 a, .int .i64 b] w fun e w' => e = .returned (.bool true) ∧ Below w.heap.size w w' := by
  go_enter Try.func13, Try.ntmps13
  go_wp2_with (first | (go_at_call 19; refine (arithlives _).mono ?_; rintro e w' ⟨rfl, rfl⟩) | (go_at_call 27; refine (sub_any _ _ _ ha hb).mono ?_; rintro e w' ⟨rfl, rfl⟩) | (go_at_call 29; refine (refwrap_1 _ _ _).mono ?_; rintro e w' ⟨rfl, rfl⟩) | (go_at_call 23; refine (reffits_1 _ _ _ ha hb).mono ?_; rintro e w' ⟨rfl, rfl⟩) | go_in)
  all_goals
    go_ret
    exact ⟨rfl, Below.refl _ _⟩

set_option maxRecDepth 100000 in
set_option maxHeartbeats 2000000 in
theorem opsMul (a b : Int) (ha : inI a = true) (hb : inI b = true) (w : World) :
    Calls Try.prog 13 #[.int .i64 4, .int .i64 a, .int .i64 b] w fun e w' => e = .returned (.bool true) ∧ Below w.heap.size w w' := by
  go_enter Try.func13, Try.ntmps13
  go_wp2_with (first | (go_at_call 19; refine (arithlives _).mono ?_; rintro e w' ⟨rfl, rfl⟩) | (go_at_call 28; refine (mul_any _ _ _ ha hb).mono ?_; rintro e w' ⟨rfl, rfl⟩) | (go_at_call 29; refine (refwrap_2 _ _ _).mono ?_; rintro e w' ⟨rfl, rfl⟩) | (go_at_call 23; refine (reffits_2 _ _ _ ha hb).mono ?_; rintro e w' ⟨rfl, rfl⟩) | go_in)
  all_goals
    go_ret
    exact ⟨rfl, Below.refl _ _⟩

set_option maxRecDepth 100000 in
set_option maxHeartbeats 2000000 in
theorem opsChkAdd (a b : Int) (ha : inI a = true) (hb : inI b = true) (w : World) :
    Calls Try.prog 13 #[.int .i64 21, .int .i64 a, .int .i64 b] w fun e w' => e = .returned (.bool true) ∧ Below w.heap.size w w' := by
  go_enter Try.func13, Try.ntmps13
  go_wp2_with (first | (go_at_call 19; refine (arithlives _).mono ?_; rintro e w' ⟨rfl, rfl⟩) | (go_at_call 26; refine (add_any _ _ _ ha hb).mono ?_; rintro e w' ⟨rfl, rfl⟩) | (go_at_call 23; refine (reffits_0 _ _ _ ha hb).mono ?_; rintro e w' ⟨rfl, rfl⟩) | go_in)
  all_goals
    go_ret
    exact ⟨rfl, Below.refl _ _⟩

set_option maxRecDepth 100000 in
set_option maxHeartbeats 2000000 in
theorem opsChkSub (a b : Int) (ha : inI a = true) (hb : inI b = true) (w : World) :
    Calls Try.prog 13 #[.int .i64 22, .int .i64 a, .int .i64 b] w fun e w' => e = .returned (.bool true) ∧ Below w.heap.size w w' := by
  go_enter Try.func13, Try.ntmps13
  go_wp2_with (first | (go_at_call 19; refine (arithlives _).mono ?_; rintro e w' ⟨rfl, rfl⟩) | (go_at_call 27; refine (sub_any _ _ _ ha hb).mono ?_; rintro e w' ⟨rfl, rfl⟩) | (go_at_call 23; refine (reffits_1 _ _ _ ha hb).mono ?_; rintro e w' ⟨rfl, rfl⟩) | go_in)
  all_goals
    go_ret
    exact ⟨rfl, Below.refl _ _⟩

set_option maxRecDepth 100000 in
set_option maxHeartbeats 2000000 in
theorem opsChkMul (a b : Int) (ha : inI a = true) (hb : inI b = true) (w : World) :
    Calls Try.prog 13 #[.int .i64 23, .int .i64 a, .int .i64 b] w fun e w' => e = .returned (.bool true) ∧ Below w.heap.size w w' := by
  go_enter Try.func13, Try.ntmps13
  go_wp2_with (first | (go_at_call 19; refine (arithlives _).mono ?_; rintro e w' ⟨rfl, rfl⟩) | (go_at_call 28; refine (mul_any _ _ _ ha hb).mono ?_; rintro e w' ⟨rfl, rfl⟩) | (go_at_call 23; refine (reffits_2 _ _ _ ha hb).mono ?_; rintro e w' ⟨rfl, rfl⟩) | go_in)
  all_goals
    go_ret
    exact ⟨rfl, Below.refl _ _⟩

set_option maxRecDepth 100000 in
set_option maxHeartbeats 2000000 in
theorem opsDiv (a b : Int) (ha : inI a = true) (hb : inI b = true) (hn : ¬ b = 0) (w : World) :
    Calls Try.prog 13 #[.int .i64 5, .int .i64 a, .int .i64 b] w fun e w' => e = .returned (.bool true) ∧ Below w.heap.size w w' := by
  have hb' : (b == 0) = false := by simpa using hn
  have c := kept (refdiv_any a b w ha hn)
  clear ha hb
  go_enter Try.func13, Try.ntmps13
  go_wp2_with (first | (go_at_call 19; refine (arithlives _).mono ?_; rintro e w' ⟨rfl, rfl⟩) | (go_at_call 20; refine (div_any _ _ _ hn).mono ?_; rintro e w' ⟨rfl, rfl⟩) | (go_at_call 21; refine (rem_any _ _ _ hn).mono ?_; rintro e w' ⟨rfl, rfl⟩) | (go_at_call 22; refine (c.out).mono ?_; rintro e w' ⟨rfl, nd, rfl⟩) | go_in)
  all_goals
    go_ret
    exact ⟨rfl, below_draws _ _⟩

set_option maxRecDepth 100000 in
set_option maxHeartbeats 2000000 in
theorem opsDiv0 (a : Int) (ha : inI a = true) (w : World) :
    Calls Try.prog 13 #[.int .i64 5, .int .i64 a, .int .i64 0] w fun e w' => e = .returned (.bool true) ∧ Below w.heap.size w w' := by
  clear ha
  go_enter Try.func13, Try.ntmps13
  go_wp2_with (first | (go_at_call 19; refine (arithlives _).mono ?_; rintro e w' ⟨rfl, rfl⟩) | (go_at_call 20; refine (div_0 _ _).mono ?_; rintro e w' ⟨rfl, rfl⟩) | (go_at_call 21; refine (rem_0 _ _).mono ?_; rintro e w' ⟨rfl, rfl⟩) | go_in)
  all_goals
    go_ret
    exact ⟨rfl, Below.refl _ _⟩

set_option maxRecDepth 100000 in
set_option maxHeartbeats 2000000 in
theorem opsRem (a b : Int) (ha : inI a = true) (hb : inI b = true) (hn : ¬ b = 0) (w : World) :
    Calls Try.prog 13 #[.int .i64 6, .int .i64 a, .int .i64 b] w fun e w' => e = .returned (.bool true) ∧ Below w.heap.size w w' := by
  have hb' : (b == 0) = false := by simpa using hn
  have c := kept (refdiv_any a b w ha hn)
  clear ha hb
  go_enter Try.func13, Try.ntmps13
  go_wp2_with (first | (go_at_call 19; refine (arithlives _).mono ?_; rintro e w' ⟨rfl, rfl⟩) | (go_at_call 20; refine (div_any _ _ _ hn).mono ?_; rintro e w' ⟨rfl, rfl⟩) | (go_at_call 21; refine (rem_any _ _ _ hn).mono ?_; rintro e w' ⟨rfl, rfl⟩) | (go_at_call 22; refine (c.out).mono ?_; rintro e w' ⟨rfl, nd, rfl⟩) | go_in)
  all_goals
    go_ret
    exact ⟨rfl, below_draws _ _⟩

set_option maxRecDepth 100000 in
set_option maxHeartbeats 2000000 in
theorem opsRem0 (a : Int) (ha : inI a = true) (w : World) :
    Calls Try.prog 13 #[.int .i64 6, .int .i64 a, .int .i64 0] w fun e w' => e = .returned (.bool true) ∧ Below w.heap.size w w' := by
  clear ha
  go_enter Try.func13, Try.ntmps13
  go_wp2_with (first | (go_at_call 19; refine (arithlives _).mono ?_; rintro e w' ⟨rfl, rfl⟩) | (go_at_call 20; refine (div_0 _ _).mono ?_; rintro e w' ⟨rfl, rfl⟩) | (go_at_call 21; refine (rem_0 _ _).mono ?_; rintro e w' ⟨rfl, rfl⟩) | go_in)
  all_goals
    go_ret
    exact ⟨rfl, Below.refl _ _⟩

set_option maxRecDepth 100000 in
set_option maxHeartbeats 2000000 in
theorem opsEq (a b : Int) (ha : inI a = true) (hb : inI b = true) (w : World) :
    Calls Try.prog 13 #[.int .i64 7, .int .i64 a, .int .i64 b] w fun e w' => e = .returned (.bool true) ∧ Below w.heap.size w w' := by
  clear ha hb
  go_enter Try.func13, Try.ntmps13
  go_wp2_with (first | (go_at_call 19; refine (arithlives _).mono ?_; rintro e w' ⟨rfl, rfl⟩) | go_in)
  all_goals
    go_ret
    exact ⟨rfl, Below.refl _ _⟩

set_option maxRecDepth 100000 in
set_option maxHeartbeats 2000000 in
theorem opsLt (a b : Int) (ha : inI a = true) (hb : inI b = true) (w : World) :
    Calls Try.prog 13 #[.int .i64 8, .int .i64 a, .int .i64 b] w fun e w' => e = .returned (.bool true) ∧ Below w.heap.size w w' := by
  clear ha hb
  go_enter Try.func13, Try.ntmps13
  go_wp2_with (first | (go_at_call 19; refine (arithlives _).mono ?_; rintro e w' ⟨rfl, rfl⟩) | go_in)
  all_goals
    go_ret
    exact ⟨rfl, Below.refl _ _⟩

set_option maxRecDepth 100000 in
set_option maxHeartbeats 2000000 in
theorem opsLe (a b : Int) (ha : inI a = true) (hb : inI b = true) (w : World) :
    Calls Try.prog 13 #[.int .i64 9, .int .i64 a, .int .i64 b] w fun e w' => e = .returned (.bool true) ∧ Below w.heap.size w w' := by
  clear ha hb
  go_enter Try.func13, Try.ntmps13
  go_wp2_with (first | (go_at_call 19; refine (arithlives _).mono ?_; rintro e w' ⟨rfl, rfl⟩) | go_in)
  all_goals
    go_ret
    exact ⟨rfl, Below.refl _ _⟩

set_option maxRecDepth 100000 in
set_option maxHeartbeats 4000000 in
theorem opsOther (op a b : Int) (h2 : ¬ op = 2) (h3 : ¬ op = 3) (h4 : ¬ op = 4) (h5 : ¬ op = 5) (h6 : ¬ op = 6) (h7 : ¬ op = 7) (h8 : ¬ op = 8) (h9 : ¬ op = 9) (h21 : ¬ op = 21) (h22 : ¬ op = 22) (h23 : ¬ op = 23) (w : World) :
    Calls Try.prog 13 #[.int .i64 op, .int .i64 a, .int .i64 b] w fun e w' => e = .returned (.bool true) ∧ Below w.heap.size w w' := by
  go_enter Try.func13, Try.ntmps13
  go_wp2_with (first | (go_at_call 19; refine (arithlives _).mono ?_; rintro e w' ⟨rfl, rfl⟩) | go_in)
  all_goals
    go_ret
    exact ⟨rfl, Below.refl _ _⟩

theorem walkArithOps (op a b : Int) (w0 : (Lit.int .i64 op).wf = true) (wa : (Lit.int .i64 a).wf = true) (wb : (Lit.int .i64 b).wf = true) (w : World) :
    Calls Try.prog 13 #[.int .i64 op, .int .i64 a, .int .i64 b] w fun e w' => e = .returned (.bool true) ∧ Below w.heap.size w w' := by
  have ha := inI_wf wa
  have hb := inI_wf wb
  by_cases h2 : op = 2
  · subst h2; exact opsAdd a b ha hb w
  by_cases h3 : op = 3
  · subst h3; exact opsSub a b ha hb w
  by_cases h4 : op = 4
  · subst h4; exact opsMul a b ha hb w
  by_cases h5 : op = 5
  · subst h5
    by_cases hn : b = 0
    · subst hn; exact opsDiv0 a ha w
    · exact opsDiv a b ha hb hn w
  by_cases h6 : op = 6
  · subst h6
    by_cases hn : b = 0
    · subst hn; exact opsRem0 a ha w
    · exact opsRem a b ha hb hn w
  by_cases h7 : op = 7
  · subst h7; exact opsEq a b ha hb w
  by_cases h8 : op = 8
  · subst h8; exact opsLt a b ha hb w
  by_cases h9 : op = 9
  · subst h9; exact opsLe a b ha hb w
  by_cases h21 : op = 21
  · subst h21; exact opsChkAdd a b ha hb w
  by_cases h22 : op = 22
  · subst h22; exact opsChkSub a b ha hb w
  by_cases h23 : op = 23
  · subst h23; exact opsChkMul a b ha hb w
  exact opsOther op a b h2 h3 h4 h5 h6 h7 h8 h9 h21 h22 h23 w
end Go.Proofs.Ytbaajnkgnemeiaa
