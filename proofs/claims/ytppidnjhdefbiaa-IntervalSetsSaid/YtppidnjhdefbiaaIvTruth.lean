/- Package interval: the contracts of Truth. -/
import Derived.Test.YtppidnjhdefbiaaIvCut
import Derived.BigQuiet
import Derived.Deep.QuietTactic
namespace Go.Proofs.Ytppidnjhdefbiaa
open Go.RowKit
set_option linter.unusedVariables false

theorem Box3.startN {w w' : World} {p q s t x y : Int} {n : Nat} (k : Keeps ((((w.alloc (.cells #[.int .i64 p, .int .i64 q] 86)).alloc (.cells #[.int .i64 s, .int .i64 t] 86)).alloc (.cells #[.int .i64 x, .int .i64 y] 86)).drewN n) w' []) : Box3 w w' ⟨p, q⟩ ⟨s, t⟩ ⟨x, y⟩ :=
  Box3.start (((Keeps.refl _ []).drewN n).next k)

set_option maxHeartbeats 4000000 in
theorem truth_lt (p q s t : Int) (h1 : p ≤ q) (h2 : s ≤ t) (w : World) :
    Calls Try.prog 77 #[.int .i64 8, .agg #[.int .i64 p, .int .i64 q], .agg #[.int .i64 s, .int .i64 t]] w fun e w' => e = .returned (.agg #[.int .i64 (Iv.truth 8 ⟨p, q⟩ ⟨s, t⟩).lo, .int .i64 (Iv.truth 8 ⟨p, q⟩ ⟨s, t⟩).hi]) ∧ Keeps w w' [] := by
  have hal : Iv.always 8 ⟨p, q⟩ ⟨s, t⟩ = decide (q < s) := rfl
  have hnv : Iv.never 8 ⟨p, q⟩ ⟨s, t⟩ = decide (t ≤ p) := rfl
  rw [Iv.truth_open 8 (a := ⟨p, q⟩) (b := ⟨s, t⟩) h1 h2, hal, hnv]
  clear hal hnv
  rcases Bool.eq_false_or_eq_true (decide (q < s)) with d1 | d1
  · rw [d1, if_pos rfl]
    go_enter Try.func77, Try.ntmps77
    go_wp2_with fail
    go_quiet (fail)
    go_wp2_with fail
    refine (empty_any _ _ _).mono ?_
    rintro e w1 ⟨rfl, k⟩
    have BX1 := kept (Box3.startN k)
    clear k
    obtain ⟨u0, u1, v0, v1, z0, z1, f0, f1⟩ := BX1.out.cells
    go_wp2_with fail
    refine (empty_any _ _ _).mono ?_
    rintro e w2 ⟨rfl, k⟩
    have BX2 := kept (BX1.out.next k)
    clear k u0 u1 v0 v1 z0 z1 f0 f1
    obtain ⟨u0, u1, v0, v1, z0, z1, f0, f1⟩ := BX2.out.cells
    go_wp2_with fail
    refine (of_any _ _).mono ?_
    rintro e w3 ⟨rfl, k⟩
    have BX3 := kept (BX2.out.next k)
    clear k u0 u1 v0 v1 z0 z1 f0 f1
    obtain ⟨u0, u1, v0, v1, z0, z1, f0, f1⟩ := BX3.out.cells
    go_wp2
    exact bodyPost_ret (v := .agg #[.int .i64 1, .int .i64 1]) (by simp [results, Try.results77, go_sem, z0, z1]) rfl ⟨rfl, BX3.out.ends _ _⟩
  rw [d1, if_neg (by decide)]
  rcases Bool.eq_false_or_eq_true (decide (t ≤ p)) with d2 | d2
  · rw [d2, if_pos rfl]
    go_enter Try.func77, Try.ntmps77
    go_wp2_with fail
    go_quiet (fail)
    go_wp2_with fail
    refine (empty_any _ _ _).mono ?_
    rintro e w1 ⟨rfl, k⟩
    have BX1 := kept (Box3.startN k)
    clear k
    obtain ⟨u0, u1, v0, v1, z0, z1, f0, f1⟩ := BX1.out.cells
    go_wp2_with fail
    refine (empty_any _ _ _).mono ?_
    rintro e w2 ⟨rfl, k⟩
    have BX2 := kept (BX1.out.next k)
    clear k u0 u1 v0 v1 z0 z1 f0 f1
    obtain ⟨u0, u1, v0, v1, z0, z1, f0, f1⟩ := BX2.out.cells
    go_wp2_with fail
    refine (of_any _ _).mono ?_
    rintro e w3 ⟨rfl, k⟩
    have BX3 := kept (BX2.out.next k)
    clear k u0 u1 v0 v1 z0 z1 f0 f1
    obtain ⟨u0, u1, v0, v1, z0, z1, f0, f1⟩ := BX3.out.cells
    go_wp2
    exact bodyPost_ret (v := .agg #[.int .i64 0, .int .i64 0]) (by simp [results, Try.results77, go_sem, z0, z1]) rfl ⟨rfl, BX3.out.ends _ _⟩
  · rw [d2, if_neg (by decide)]
    go_enter Try.func77, Try.ntmps77
    go_wp2_with fail
    go_quiet (fail)
    go_wp2_with fail
    refine (empty_any _ _ _).mono ?_
    rintro e w1 ⟨rfl, k⟩
    have BX1 := kept (Box3.startN k)
    clear k
    obtain ⟨u0, u1, v0, v1, z0, z1, f0, f1⟩ := BX1.out.cells
    go_wp2_with fail
    refine (empty_any _ _ _).mono ?_
    rintro e w2 ⟨rfl, k⟩
    have BX2 := kept (BX1.out.next k)
    clear k u0 u1 v0 v1 z0 z1 f0 f1
    obtain ⟨u0, u1, v0, v1, z0, z1, f0, f1⟩ := BX2.out.cells
    go_wp2
    exact bodyPost_ret (v := .agg #[.int .i64 0, .int .i64 1]) (by simp [results, Try.results77, go_sem, z0, z1]) rfl ⟨rfl, BX2.out.ends _ _⟩

set_option maxHeartbeats 4000000 in
theorem truth_le (p q s t : Int) (h1 : p ≤ q) (h2 : s ≤ t) (w : World) :
    Calls Try.prog 77 #[.int .i64 9, .agg #[.int .i64 p, .int .i64 q], .agg #[.int .i64 s, .int .i64 t]] w fun e w' => e = .returned (.agg #[.int .i64 (Iv.truth 9 ⟨p, q⟩ ⟨s, t⟩).lo, .int .i64 (Iv.truth 9 ⟨p, q⟩ ⟨s, t⟩).hi]) ∧ Keeps w w' [] := by
  have hal : Iv.always 9 ⟨p, q⟩ ⟨s, t⟩ = decide (q ≤ s) := rfl
  have hnv : Iv.never 9 ⟨p, q⟩ ⟨s, t⟩ = decide (t < p) := rfl
  rw [Iv.truth_open 9 (a := ⟨p, q⟩) (b := ⟨s, t⟩) h1 h2, hal, hnv]
  clear hal hnv
  rcases Bool.eq_false_or_eq_true (decide (q ≤ s)) with d1 | d1
  · rw [d1, if_pos rfl]
    go_enter Try.func77, Try.ntmps77
    go_wp2_with fail
    go_quiet (fail)
    go_wp2_with fail
    refine (empty_any _ _ _).mono ?_
    rintro e w1 ⟨rfl, k⟩
    have BX1 := kept (Box3.startN k)
    clear k
    obtain ⟨u0, u1, v0, v1, z0, z1, f0, f1⟩ := BX1.out.cells
    go_wp2_with fail
    refine (empty_any _ _ _).mono ?_
    rintro e w2 ⟨rfl, k⟩
    have BX2 := kept (BX1.out.next k)
    clear k u0 u1 v0 v1 z0 z1 f0 f1
    obtain ⟨u0, u1, v0, v1, z0, z1, f0, f1⟩ := BX2.out.cells
    go_wp2_with fail
    refine (of_any _ _).mono ?_
    rintro e w3 ⟨rfl, k⟩
    have BX3 := kept (BX2.out.next k)
    clear k u0 u1 v0 v1 z0 z1 f0 f1
    obtain ⟨u0, u1, v0, v1, z0, z1, f0, f1⟩ := BX3.out.cells
    go_wp2
    exact bodyPost_ret (v := .agg #[.int .i64 1, .int .i64 1]) (by simp [results, Try.results77, go_sem, z0, z1]) rfl ⟨rfl, BX3.out.ends _ _⟩
  rw [d1, if_neg (by decide)]
  rcases Bool.eq_false_or_eq_true (decide (t < p)) with d2 | d2
  · rw [d2, if_pos rfl]
    go_enter Try.func77, Try.ntmps77
    go_wp2_with fail
    go_quiet (fail)
    go_wp2_with fail
    refine (empty_any _ _ _).mono ?_
    rintro e w1 ⟨rfl, k⟩
    have BX1 := kept (Box3.startN k)
    clear k
    obtain ⟨u0, u1, v0, v1, z0, z1, f0, f1⟩ := BX1.out.cells
    go_wp2_with fail
    refine (empty_any _ _ _).mono ?_
    rintro e w2 ⟨rfl, k⟩
    have BX2 := kept (BX1.out.next k)
    clear k u0 u1 v0 v1 z0 z1 f0 f1
    obtain ⟨u0, u1, v0, v1, z0, z1, f0, f1⟩ := BX2.out.cells
    go_wp2_with fail
    refine (of_any _ _).mono ?_
    rintro e w3 ⟨rfl, k⟩
    have BX3 := kept (BX2.out.next k)
    clear k u0 u1 v0 v1 z0 z1 f0 f1
    obtain ⟨u0, u1, v0, v1, z0, z1, f0, f1⟩ := BX3.out.cells
    go_wp2
    exact bodyPost_ret (v := .agg #[.int .i64 0, .int .i64 0]) (by simp [results, Try.results77, go_sem, z0, z1]) rfl ⟨rfl, BX3.out.ends _ _⟩
  · rw [d2, if_neg (by decide)]
    go_enter Try.func77, Try.ntmps77
    go_wp2_with fail
    go_quiet (fail)
    go_wp2_with fail
    refine (empty_any _ _ _).mono ?_
    rintro e w1 ⟨rfl, k⟩
    have BX1 := kept (Box3.startN k)
    clear k
    obtain ⟨u0, u1, v0, v1, z0, z1, f0, f1⟩ := BX1.out.cells
    go_wp2_with fail
    refine (empty_any _ _ _).mono ?_
    rintro e w2 ⟨rfl, k⟩
    have BX2 := kept (BX1.out.next k)
    clear k u0 u1 v0 v1 z0 z1 f0 f1
    obtain ⟨u0, u1, v0, v1, z0, z1, f0, f1⟩ := BX2.out.cells
    go_wp2
    exact bodyPost_ret (v := .agg #[.int .i64 0, .int .i64 1]) (by simp [results, Try.results77, go_sem, z0, z1]) rfl ⟨rfl, BX2.out.ends _ _⟩

set_option maxHeartbeats 4000000 in
theorem truth_other (op p q s t : Int) (n7 : ¬ op = 7) (n8 : ¬ op = 8) (n9 : ¬ op = 9) (h1 : p ≤ q) (h2 : s ≤ t) (w : World) :
    Calls Try.prog 77 #[.int .i64 op, .agg #[.int .i64 p, .int .i64 q], .agg #[.int .i64 s, .int .i64 t]] w fun e w' => e = .returned (.agg #[.int .i64 (Iv.truth op ⟨p, q⟩ ⟨s, t⟩).lo, .int .i64 (Iv.truth op ⟨p, q⟩ ⟨s, t⟩).hi]) ∧ Keeps w w' [] := by
  have hal : Iv.always op ⟨p, q⟩ ⟨s, t⟩ = false := by unfold Iv.always; rw [if_neg n7, if_neg n8, if_neg n9]
  have hnv : Iv.never op ⟨p, q⟩ ⟨s, t⟩ = false := by unfold Iv.never; rw [if_neg n7, if_neg n8, if_neg n9]
  rw [Iv.truth_open op (a := ⟨p, q⟩) (b := ⟨s, t⟩) h1 h2, hal, hnv, if_neg (by decide), if_neg (by decide)]
  have e7 : (op == 7) = false := by simpa using n7
  have e8 : (op == 8) = false := by simpa using n8
  have e9 : (op == 9) = false := by simpa using n9
  clear hal hnv n7 n8 n9
  go_enter Try.func77, Try.ntmps77
  go_wp2_with fail
  refine (empty_any _ _ _).mono ?_
  rintro e w1 ⟨rfl, k⟩
  have BX1 := kept (Box3.start k)
  clear k
  obtain ⟨u0, u1, v0, v1, z0, z1, f0, f1⟩ := BX1.out.cells
  go_wp2_with fail
  refine (empty_any _ _ _).mono ?_
  rintro e w2 ⟨rfl, k⟩
  have BX2 := kept (BX1.out.next k)
  clear k u0 u1 v0 v1 z0 z1 f0 f1
  obtain ⟨u0, u1, v0, v1, z0, z1, f0, f1⟩ := BX2.out.cells
  go_wp2
  exact bodyPost_ret (v := .agg #[.int .i64 0, .int .i64 1]) (by simp [results, Try.results77, go_sem, z0, z1]) rfl ⟨rfl, BX2.out.ends _ _⟩

set_option maxHeartbeats 16000000 in
theorem truth_eq (p q s t : Int) (h1 : p ≤ q) (h2 : s ≤ t) (w : World) :
    Calls Try.prog 77 #[.int .i64 7, .agg #[.int .i64 p, .int .i64 q], .agg #[.int .i64 s, .int .i64 t]] w fun e w' => e = .returned (.agg #[.int .i64 (Iv.truth 7 ⟨p, q⟩ ⟨s, t⟩).lo, .int .i64 (Iv.truth 7 ⟨p, q⟩ ⟨s, t⟩).hi]) ∧ Keeps w w' [] := by
  obtain ⟨m, hm⟩ : ∃ m, Iv.meet ⟨p, q⟩ ⟨s, t⟩ = m := ⟨_, rfl⟩
  have hal : Iv.always 7 ⟨p, q⟩ ⟨s, t⟩ = (decide (p = q) && (decide (p = s) && decide (q = t))) := rfl
  have hnv : Iv.never 7 ⟨p, q⟩ ⟨s, t⟩ = decide (m.hi < m.lo) := by rw [← hm]; rfl
  rw [Iv.truth_open 7 (a := ⟨p, q⟩) (b := ⟨s, t⟩) h1 h2, hal, hnv]
  have CM := kept (fun w => meet_any p q s t w)
  rw [hm] at CM
  clear hal hnv hm
  rcases Bool.eq_false_or_eq_true (p == q) with d0 | d0
  · have d0' : p = q := by simpa using d0
    subst d0'
    clear d0
    rcases Bool.eq_false_or_eq_true (p == s) with d1 | d1
    · have d1' : p = s := by simpa using d1
      subst d1'
      clear d1
      rcases Bool.eq_false_or_eq_true (p == t) with d2 | d2
      · have d2' : p = t := by simpa using d2
        subst d2'
        clear d2
        simp only [decide_true, Bool.and_self, if_true]
        go_enter Try.func77, Try.ntmps77
        go_wp2_with fail
        refine (CM.out _).mono ?_
        rintro e w1 ⟨rfl, k⟩
        have BX1 := kept (Box3.start k)
        clear k
        obtain ⟨u0, u1, v0, v1, z0, z1, f0, f1⟩ := BX1.out.cells
        go_wp2_with fail
        refine (empty_any _ _ _).mono ?_
        rintro e w2 ⟨rfl, k⟩
        have BX2 := kept (BX1.out.next k)
        clear k u0 u1 v0 v1 z0 z1 f0 f1
        obtain ⟨u0, u1, v0, v1, z0, z1, f0, f1⟩ := BX2.out.cells
        go_wp2_with fail
        refine (empty_any _ _ _).mono ?_
        rintro e w3 ⟨rfl, k⟩
        have BX3 := kept (BX2.out.next k)
        clear k u0 u1 v0 v1 z0 z1 f0 f1
        obtain ⟨u0, u1, v0, v1, z0, z1, f0, f1⟩ := BX3.out.cells
        go_wp2_with fail
        refine (empty_any _ _ _).mono ?_
        rintro e w4 ⟨rfl, k⟩
        have BX4 := kept (BX3.out.next k)
        clear k u0 u1 v0 v1 z0 z1 f0 f1
        obtain ⟨u0, u1, v0, v1, z0, z1, f0, f1⟩ := BX4.out.cells
        go_wp2_with fail
        refine (of_any _ _).mono ?_
        rintro e w5 ⟨rfl, k⟩
        have BX5 := kept (BX4.out.next k)
        clear k u0 u1 v0 v1 z0 z1 f0 f1
        obtain ⟨u0, u1, v0, v1, z0, z1, f0, f1⟩ := BX5.out.cells
        go_wp2
        exact bodyPost_ret (v := .agg #[.int .i64 1, .int .i64 1]) (by simp [results, Try.results77, go_sem, z0, z1]) rfl ⟨rfl, BX5.out.ends _ _⟩
      · have hz : (decide (p = p) && (decide (p = p) && decide (p = t))) = false := by simp; simp at d2; omega
        rw [hz, if_neg (by decide)]
        clear hz
        rcases Bool.eq_false_or_eq_true (decide (m.hi < m.lo)) with d5 | d5
        · rw [d5, if_pos rfl]
          go_enter Try.func77, Try.ntmps77
          go_wp2_with fail
          refine (CM.out _).mono ?_
          rintro e w1 ⟨rfl, k⟩
          have BX1 := kept (Box3.start k)
          clear k
          obtain ⟨u0, u1, v0, v1, z0, z1, f0, f1⟩ := BX1.out.cells
          go_wp2_with fail
          refine (empty_any _ _ _).mono ?_
          rintro e w2 ⟨rfl, k⟩
          have BX2 := kept (BX1.out.next k)
          clear k u0 u1 v0 v1 z0 z1 f0 f1
          obtain ⟨u0, u1, v0, v1, z0, z1, f0, f1⟩ := BX2.out.cells
          go_wp2_with fail
          refine (empty_any _ _ _).mono ?_
          rintro e w3 ⟨rfl, k⟩
          have BX3 := kept (BX2.out.next k)
          clear k u0 u1 v0 v1 z0 z1 f0 f1
          obtain ⟨u0, u1, v0, v1, z0, z1, f0, f1⟩ := BX3.out.cells
          go_wp2_with fail
          refine (empty_any _ _ _).mono ?_
          rintro e w4 ⟨rfl, k⟩
          have BX4 := kept (BX3.out.next k)
          clear k u0 u1 v0 v1 z0 z1 f0 f1
          obtain ⟨u0, u1, v0, v1, z0, z1, f0, f1⟩ := BX4.out.cells
          go_wp2_with fail
          refine (of_any _ _).mono ?_
          rintro e w5 ⟨rfl, k⟩
          have BX5 := kept (BX4.out.next k)
          clear k u0 u1 v0 v1 z0 z1 f0 f1
          obtain ⟨u0, u1, v0, v1, z0, z1, f0, f1⟩ := BX5.out.cells
          go_wp2
          exact bodyPost_ret (v := .agg #[.int .i64 0, .int .i64 0]) (by simp [results, Try.results77, go_sem, z0, z1]) rfl ⟨rfl, BX5.out.ends _ _⟩
        · rw [d5, if_neg (by decide)]
          go_enter Try.func77, Try.ntmps77
          go_wp2_with fail
          refine (CM.out _).mono ?_
          rintro e w1 ⟨rfl, k⟩
          have BX1 := kept (Box3.start k)
          clear k
          obtain ⟨u0, u1, v0, v1, z0, z1, f0, f1⟩ := BX1.out.cells
          go_wp2_with fail
          refine (empty_any _ _ _).mono ?_
          rintro e w2 ⟨rfl, k⟩
          have BX2 := kept (BX1.out.next k)
          clear k u0 u1 v0 v1 z0 z1 f0 f1
          obtain ⟨u0, u1, v0, v1, z0, z1, f0, f1⟩ := BX2.out.cells
          go_wp2_with fail
          refine (empty_any _ _ _).mono ?_
          rintro e w3 ⟨rfl, k⟩
          have BX3 := kept (BX2.out.next k)
          clear k u0 u1 v0 v1 z0 z1 f0 f1
          obtain ⟨u0, u1, v0, v1, z0, z1, f0, f1⟩ := BX3.out.cells
          go_wp2_with fail
          refine (empty_any _ _ _).mono ?_
          rintro e w4 ⟨rfl, k⟩
          have BX4 := kept (BX3.out.next k)
          clear k u0 u1 v0 v1 z0 z1 f0 f1
          obtain ⟨u0, u1, v0, v1, z0, z1, f0, f1⟩ := BX4.out.cells
          go_wp2
          exact bodyPost_ret (v := .agg #[.int .i64 0, .int .i64 1]) (by simp [results, Try.results77, go_sem, z0, z1]) rfl ⟨rfl, BX4.out.ends _ _⟩
    · have hz : (decide (p = p) && (decide (p = s) && decide (p = t))) = false := by simp; simp at d1; omega
      rw [hz, if_neg (by decide)]
      clear hz
      rcases Bool.eq_false_or_eq_true (decide (m.hi < m.lo)) with d5 | d5
      · rw [d5, if_pos rfl]
        go_enter Try.func77, Try.ntmps77
        go_wp2_with fail
        refine (CM.out _).mono ?_
        rintro e w1 ⟨rfl, k⟩
        have BX1 := kept (Box3.start k)
        clear k
        obtain ⟨u0, u1, v0, v1, z0, z1, f0, f1⟩ := BX1.out.cells
        go_wp2_with fail
        refine (empty_any _ _ _).mono ?_
        rintro e w2 ⟨rfl, k⟩
        have BX2 := kept (BX1.out.next k)
        clear k u0 u1 v0 v1 z0 z1 f0 f1
        obtain ⟨u0, u1, v0, v1, z0, z1, f0, f1⟩ := BX2.out.cells
        go_wp2_with fail
        refine (empty_any _ _ _).mono ?_
        rintro e w3 ⟨rfl, k⟩
        have BX3 := kept (BX2.out.next k)
        clear k u0 u1 v0 v1 z0 z1 f0 f1
        obtain ⟨u0, u1, v0, v1, z0, z1, f0, f1⟩ := BX3.out.cells
        go_wp2_with fail
        refine (empty_any _ _ _).mono ?_
        rintro e w4 ⟨rfl, k⟩
        have BX4 := kept (BX3.out.next k)
        clear k u0 u1 v0 v1 z0 z1 f0 f1
        obtain ⟨u0, u1, v0, v1, z0, z1, f0, f1⟩ := BX4.out.cells
        go_wp2_with fail
        refine (of_any _ _).mono ?_
        rintro e w5 ⟨rfl, k⟩
        have BX5 := kept (BX4.out.next k)
        clear k u0 u1 v0 v1 z0 z1 f0 f1
        obtain ⟨u0, u1, v0, v1, z0, z1, f0, f1⟩ := BX5.out.cells
        go_wp2
        exact bodyPost_ret (v := .agg #[.int .i64 0, .int .i64 0]) (by simp [results, Try.results77, go_sem, z0, z1]) rfl ⟨rfl, BX5.out.ends _ _⟩
      · rw [d5, if_neg (by decide)]
        go_enter Try.func77, Try.ntmps77
        go_wp2_with fail
        refine (CM.out _).mono ?_
        rintro e w1 ⟨rfl, k⟩
        have BX1 := kept (Box3.start k)
        clear k
        obtain ⟨u0, u1, v0, v1, z0, z1, f0, f1⟩ := BX1.out.cells
        go_wp2_with fail
        refine (empty_any _ _ _).mono ?_
        rintro e w2 ⟨rfl, k⟩
        have BX2 := kept (BX1.out.next k)
        clear k u0 u1 v0 v1 z0 z1 f0 f1
        obtain ⟨u0, u1, v0, v1, z0, z1, f0, f1⟩ := BX2.out.cells
        go_wp2_with fail
        refine (empty_any _ _ _).mono ?_
        rintro e w3 ⟨rfl, k⟩
        have BX3 := kept (BX2.out.next k)
        clear k u0 u1 v0 v1 z0 z1 f0 f1
        obtain ⟨u0, u1, v0, v1, z0, z1, f0, f1⟩ := BX3.out.cells
        go_wp2_with fail
        refine (empty_any _ _ _).mono ?_
        rintro e w4 ⟨rfl, k⟩
        have BX4 := kept (BX3.out.next k)
        clear k u0 u1 v0 v1 z0 z1 f0 f1
        obtain ⟨u0, u1, v0, v1, z0, z1, f0, f1⟩ := BX4.out.cells
        go_wp2
        exact bodyPost_ret (v := .agg #[.int .i64 0, .int .i64 1]) (by simp [results, Try.results77, go_sem, z0, z1]) rfl ⟨rfl, BX4.out.ends _ _⟩
  · have hz : (decide (p = q) && (decide (p = s) && decide (q = t))) = false := by simp; simp at d0; omega
    rw [hz, if_neg (by decide)]
    clear hz
    rcases Bool.eq_false_or_eq_true (decide (m.hi < m.lo)) with d5 | d5
    · rw [d5, if_pos rfl]
      go_enter Try.func77, Try.ntmps77
      go_wp2_with fail
      refine (CM.out _).mono ?_
      rintro e w1 ⟨rfl, k⟩
      have BX1 := kept (Box3.start k)
      clear k
      obtain ⟨u0, u1, v0, v1, z0, z1, f0, f1⟩ := BX1.out.cells
      go_wp2_with fail
      refine (empty_any _ _ _).mono ?_
      rintro e w2 ⟨rfl, k⟩
      have BX2 := kept (BX1.out.next k)
      clear k u0 u1 v0 v1 z0 z1 f0 f1
      obtain ⟨u0, u1, v0, v1, z0, z1, f0, f1⟩ := BX2.out.cells
      go_wp2_with fail
      refine (empty_any _ _ _).mono ?_
      rintro e w3 ⟨rfl, k⟩
      have BX3 := kept (BX2.out.next k)
      clear k u0 u1 v0 v1 z0 z1 f0 f1
      obtain ⟨u0, u1, v0, v1, z0, z1, f0, f1⟩ := BX3.out.cells
      go_wp2_with fail
      refine (empty_any _ _ _).mono ?_
      rintro e w4 ⟨rfl, k⟩
      have BX4 := kept (BX3.out.next k)
      clear k u0 u1 v0 v1 z0 z1 f0 f1
      obtain ⟨u0, u1, v0, v1, z0, z1, f0, f1⟩ := BX4.out.cells
      go_wp2_with fail
      refine (of_any _ _).mono ?_
      rintro e w5 ⟨rfl, k⟩
      have BX5 := kept (BX4.out.next k)
      clear k u0 u1 v0 v1 z0 z1 f0 f1
      obtain ⟨u0, u1, v0, v1, z0, z1, f0, f1⟩ := BX5.out.cells
      go_wp2
      exact bodyPost_ret (v := .agg #[.int .i64 0, .int .i64 0]) (by simp [results, Try.results77, go_sem, z0, z1]) rfl ⟨rfl, BX5.out.ends _ _⟩
    · rw [d5, if_neg (by decide)]
      go_enter Try.func77, Try.ntmps77
      go_wp2_with fail
      refine (CM.out _).mono ?_
      rintro e w1 ⟨rfl, k⟩
      have BX1 := kept (Box3.start k)
      clear k
      obtain ⟨u0, u1, v0, v1, z0, z1, f0, f1⟩ := BX1.out.cells
      go_wp2_with fail
      refine (empty_any _ _ _).mono ?_
      rintro e w2 ⟨rfl, k⟩
      have BX2 := kept (BX1.out.next k)
      clear k u0 u1 v0 v1 z0 z1 f0 f1
      obtain ⟨u0, u1, v0, v1, z0, z1, f0, f1⟩ := BX2.out.cells
      go_wp2_with fail
      refine (empty_any _ _ _).mono ?_
      rintro e w3 ⟨rfl, k⟩
      have BX3 := kept (BX2.out.next k)
      clear k u0 u1 v0 v1 z0 z1 f0 f1
      obtain ⟨u0, u1, v0, v1, z0, z1, f0, f1⟩ := BX3.out.cells
      go_wp2_with fail
      refine (empty_any _ _ _).mono ?_
      rintro e w4 ⟨rfl, k⟩
      have BX4 := kept (BX3.out.next k)
      clear k u0 u1 v0 v1 z0 z1 f0 f1
      obtain ⟨u0, u1, v0, v1, z0, z1, f0, f1⟩ := BX4.out.cells
      go_wp2
      exact bodyPost_ret (v := .agg #[.int .i64 0, .int .i64 1]) (by simp [results, Try.results77, go_sem, z0, z1]) rfl ⟨rfl, BX4.out.ends _ _⟩

set_option maxHeartbeats 16000000 in
theorem truth_none (op p q s t : Int) (h : q < p ∨ t < s) (w : World) :
    Calls Try.prog 77 #[.int .i64 op, .agg #[.int .i64 p, .int .i64 q], .agg #[.int .i64 s, .int .i64 t]] w fun e w' => e = .returned (.agg #[.int .i64 1, .int .i64 0]) ∧ Keeps w w' [] := by
  by_cases n8 : op = 8
  · subst n8
    by_cases h1 : q < p
    · clear h
      go_enter Try.func77, Try.ntmps77
      go_wp2_with fail
      go_quiet (fail)
      go_wp2_with fail
      refine (empty_any _ _ _).mono ?_
      rintro e w1 ⟨rfl, k⟩
      have BX1 := kept (Box3.startN k)
      clear k
      obtain ⟨u0, u1, v0, v1, z0, z1, f0, f1⟩ := BX1.out.cells
      go_wp2_with fail
      refine (none_any _).mono ?_
      rintro e w2 ⟨rfl, k⟩
      have BX2 := kept (BX1.out.next k)
      clear k u0 u1 v0 v1 z0 z1 f0 f1
      obtain ⟨u0, u1, v0, v1, z0, z1, f0, f1⟩ := BX2.out.cells
      go_wp2
      exact bodyPost_ret (v := .agg #[.int .i64 1, .int .i64 0]) (by simp [results, Try.results77, go_sem, z0, z1]) rfl ⟨rfl, BX2.out.ends _ _⟩
    · have h2 : t < s := by omega
      have h3 : p ≤ q := by omega
      clear h
      go_enter Try.func77, Try.ntmps77
      go_wp2_with fail
      go_quiet (fail)
      go_wp2_with fail
      refine (empty_any _ _ _).mono ?_
      rintro e w1 ⟨rfl, k⟩
      have BX1 := kept (Box3.startN k)
      clear k
      obtain ⟨u0, u1, v0, v1, z0, z1, f0, f1⟩ := BX1.out.cells
      go_wp2_with fail
      refine (empty_any _ _ _).mono ?_
      rintro e w2 ⟨rfl, k⟩
      have BX2 := kept (BX1.out.next k)
      clear k u0 u1 v0 v1 z0 z1 f0 f1
      obtain ⟨u0, u1, v0, v1, z0, z1, f0, f1⟩ := BX2.out.cells
      go_wp2_with fail
      refine (none_any _).mono ?_
      rintro e w3 ⟨rfl, k⟩
      have BX3 := kept (BX2.out.next k)
      clear k u0 u1 v0 v1 z0 z1 f0 f1
      obtain ⟨u0, u1, v0, v1, z0, z1, f0, f1⟩ := BX3.out.cells
      go_wp2
      exact bodyPost_ret (v := .agg #[.int .i64 1, .int .i64 0]) (by simp [results, Try.results77, go_sem, z0, z1]) rfl ⟨rfl, BX3.out.ends _ _⟩
  by_cases n9 : op = 9
  · subst n9
    by_cases h1 : q < p
    · clear h
      go_enter Try.func77, Try.ntmps77
      go_wp2_with fail
      go_quiet (fail)
      go_wp2_with fail
      refine (empty_any _ _ _).mono ?_
      rintro e w1 ⟨rfl, k⟩
      have BX1 := kept (Box3.startN k)
      clear k
      obtain ⟨u0, u1, v0, v1, z0, z1, f0, f1⟩ := BX1.out.cells
      go_wp2_with fail
      refine (none_any _).mono ?_
      rintro e w2 ⟨rfl, k⟩
      have BX2 := kept (BX1.out.next k)
      clear k u0 u1 v0 v1 z0 z1 f0 f1
      obtain ⟨u0, u1, v0, v1, z0, z1, f0, f1⟩ := BX2.out.cells
      go_wp2
      exact bodyPost_ret (v := .agg #[.int .i64 1, .int .i64 0]) (by simp [results, Try.results77, go_sem, z0, z1]) rfl ⟨rfl, BX2.out.ends _ _⟩
    · have h2 : t < s := by omega
      have h3 : p ≤ q := by omega
      clear h
      go_enter Try.func77, Try.ntmps77
      go_wp2_with fail
      go_quiet (fail)
      go_wp2_with fail
      refine (empty_any _ _ _).mono ?_
      rintro e w1 ⟨rfl, k⟩
      have BX1 := kept (Box3.startN k)
      clear k
      obtain ⟨u0, u1, v0, v1, z0, z1, f0, f1⟩ := BX1.out.cells
      go_wp2_with fail
      refine (empty_any _ _ _).mono ?_
      rintro e w2 ⟨rfl, k⟩
      have BX2 := kept (BX1.out.next k)
      clear k u0 u1 v0 v1 z0 z1 f0 f1
      obtain ⟨u0, u1, v0, v1, z0, z1, f0, f1⟩ := BX2.out.cells
      go_wp2_with fail
      refine (none_any _).mono ?_
      rintro e w3 ⟨rfl, k⟩
      have BX3 := kept (BX2.out.next k)
      clear k u0 u1 v0 v1 z0 z1 f0 f1
      obtain ⟨u0, u1, v0, v1, z0, z1, f0, f1⟩ := BX3.out.cells
      go_wp2
      exact bodyPost_ret (v := .agg #[.int .i64 1, .int .i64 0]) (by simp [results, Try.results77, go_sem, z0, z1]) rfl ⟨rfl, BX3.out.ends _ _⟩
  by_cases n7 : op = 7
  · subst n7
    obtain ⟨m, hm⟩ : ∃ m, Iv.meet ⟨p, q⟩ ⟨s, t⟩ = m := ⟨_, rfl⟩
    have CM := kept (fun w => meet_any p q s t w)
    rw [hm] at CM
    clear hm
    rcases Bool.eq_false_or_eq_true (p == q) with d0 | d0
    · have d0' : p = q := by simpa using d0
      subst d0'
      clear d0
      have h2 : t < s := by omega
      clear h
      rcases Bool.eq_false_or_eq_true (p == s) with d1 | d1
      · have d1' : p = s := by simpa using d1
        subst d1'
        clear d1
        have d2 : (p == t) = false := by simp; omega
        go_enter Try.func77, Try.ntmps77
        go_wp2_with fail
        refine (CM.out _).mono ?_
        rintro e w1 ⟨rfl, k⟩
        have BX1 := kept (Box3.start k)
        clear k
        obtain ⟨u0, u1, v0, v1, z0, z1, f0, f1⟩ := BX1.out.cells
        go_wp2_with fail
        refine (empty_any _ _ _).mono ?_
        rintro e w2 ⟨rfl, k⟩
        have BX2 := kept (BX1.out.next k)
        clear k u0 u1 v0 v1 z0 z1 f0 f1
        obtain ⟨u0, u1, v0, v1, z0, z1, f0, f1⟩ := BX2.out.cells
        go_wp2_with fail
        refine (empty_any _ _ _).mono ?_
        rintro e w3 ⟨rfl, k⟩
        have BX3 := kept (BX2.out.next k)
        clear k u0 u1 v0 v1 z0 z1 f0 f1
        obtain ⟨u0, u1, v0, v1, z0, z1, f0, f1⟩ := BX3.out.cells
        go_wp2_with fail
        refine (empty_any _ _ _).mono ?_
        rintro e w4 ⟨rfl, k⟩
        have BX4 := kept (BX3.out.next k)
        clear k u0 u1 v0 v1 z0 z1 f0 f1
        obtain ⟨u0, u1, v0, v1, z0, z1, f0, f1⟩ := BX4.out.cells
        go_wp2_with fail
        refine (none_any _).mono ?_
        rintro e w5 ⟨rfl, k⟩
        have BX5 := kept (BX4.out.next k)
        clear k u0 u1 v0 v1 z0 z1 f0 f1
        obtain ⟨u0, u1, v0, v1, z0, z1, f0, f1⟩ := BX5.out.cells
        go_wp2
        exact bodyPost_ret (v := .agg #[.int .i64 1, .int .i64 0]) (by simp [results, Try.results77, go_sem, z0, z1]) rfl ⟨rfl, BX5.out.ends _ _⟩
      · go_enter Try.func77, Try.ntmps77
        go_wp2_with fail
        refine (CM.out _).mono ?_
        rintro e w1 ⟨rfl, k⟩
        have BX1 := kept (Box3.start k)
        clear k
        obtain ⟨u0, u1, v0, v1, z0, z1, f0, f1⟩ := BX1.out.cells
        go_wp2_with fail
        refine (empty_any _ _ _).mono ?_
        rintro e w2 ⟨rfl, k⟩
        have BX2 := kept (BX1.out.next k)
        clear k u0 u1 v0 v1 z0 z1 f0 f1
        obtain ⟨u0, u1, v0, v1, z0, z1, f0, f1⟩ := BX2.out.cells
        go_wp2_with fail
        refine (empty_any _ _ _).mono ?_
        rintro e w3 ⟨rfl, k⟩
        have BX3 := kept (BX2.out.next k)
        clear k u0 u1 v0 v1 z0 z1 f0 f1
        obtain ⟨u0, u1, v0, v1, z0, z1, f0, f1⟩ := BX3.out.cells
        go_wp2_with fail
        refine (empty_any _ _ _).mono ?_
        rintro e w4 ⟨rfl, k⟩
        have BX4 := kept (BX3.out.next k)
        clear k u0 u1 v0 v1 z0 z1 f0 f1
        obtain ⟨u0, u1, v0, v1, z0, z1, f0, f1⟩ := BX4.out.cells
        go_wp2_with fail
        refine (none_any _).mono ?_
        rintro e w5 ⟨rfl, k⟩
        have BX5 := kept (BX4.out.next k)
        clear k u0 u1 v0 v1 z0 z1 f0 f1
        obtain ⟨u0, u1, v0, v1, z0, z1, f0, f1⟩ := BX5.out.cells
        go_wp2
        exact bodyPost_ret (v := .agg #[.int .i64 1, .int .i64 0]) (by simp [results, Try.results77, go_sem, z0, z1]) rfl ⟨rfl, BX5.out.ends _ _⟩
    · by_cases h1 : q < p
      · clear h
        go_enter Try.func77, Try.ntmps77
        go_wp2_with fail
        refine (CM.out _).mono ?_
        rintro e w1 ⟨rfl, k⟩
        have BX1 := kept (Box3.start k)
        clear k
        obtain ⟨u0, u1, v0, v1, z0, z1, f0, f1⟩ := BX1.out.cells
        go_wp2_with fail
        refine (empty_any _ _ _).mono ?_
        rintro e w2 ⟨rfl, k⟩
        have BX2 := kept (BX1.out.next k)
        clear k u0 u1 v0 v1 z0 z1 f0 f1
        obtain ⟨u0, u1, v0, v1, z0, z1, f0, f1⟩ := BX2.out.cells
        go_wp2_with fail
        refine (empty_any _ _ _).mono ?_
        rintro e w3 ⟨rfl, k⟩
        have BX3 := kept (BX2.out.next k)
        clear k u0 u1 v0 v1 z0 z1 f0 f1
        obtain ⟨u0, u1, v0, v1, z0, z1, f0, f1⟩ := BX3.out.cells
        go_wp2_with fail
        refine (none_any _).mono ?_
        rintro e w4 ⟨rfl, k⟩
        have BX4 := kept (BX3.out.next k)
        clear k u0 u1 v0 v1 z0 z1 f0 f1
        obtain ⟨u0, u1, v0, v1, z0, z1, f0, f1⟩ := BX4.out.cells
        go_wp2
        exact bodyPost_ret (v := .agg #[.int .i64 1, .int .i64 0]) (by simp [results, Try.results77, go_sem, z0, z1]) rfl ⟨rfl, BX4.out.ends _ _⟩
      · have h2 : t < s := by omega
        have h3 : p ≤ q := by omega
        clear h
        go_enter Try.func77, Try.ntmps77
        go_wp2_with fail
        refine (CM.out _).mono ?_
        rintro e w1 ⟨rfl, k⟩
        have BX1 := kept (Box3.start k)
        clear k
        obtain ⟨u0, u1, v0, v1, z0, z1, f0, f1⟩ := BX1.out.cells
        go_wp2_with fail
        refine (empty_any _ _ _).mono ?_
        rintro e w2 ⟨rfl, k⟩
        have BX2 := kept (BX1.out.next k)
        clear k u0 u1 v0 v1 z0 z1 f0 f1
        obtain ⟨u0, u1, v0, v1, z0, z1, f0, f1⟩ := BX2.out.cells
        go_wp2_with fail
        refine (empty_any _ _ _).mono ?_
        rintro e w3 ⟨rfl, k⟩
        have BX3 := kept (BX2.out.next k)
        clear k u0 u1 v0 v1 z0 z1 f0 f1
        obtain ⟨u0, u1, v0, v1, z0, z1, f0, f1⟩ := BX3.out.cells
        go_wp2_with fail
        refine (empty_any _ _ _).mono ?_
        rintro e w4 ⟨rfl, k⟩
        have BX4 := kept (BX3.out.next k)
        clear k u0 u1 v0 v1 z0 z1 f0 f1
        obtain ⟨u0, u1, v0, v1, z0, z1, f0, f1⟩ := BX4.out.cells
        go_wp2_with fail
        refine (none_any _).mono ?_
        rintro e w5 ⟨rfl, k⟩
        have BX5 := kept (BX4.out.next k)
        clear k u0 u1 v0 v1 z0 z1 f0 f1
        obtain ⟨u0, u1, v0, v1, z0, z1, f0, f1⟩ := BX5.out.cells
        go_wp2
        exact bodyPost_ret (v := .agg #[.int .i64 1, .int .i64 0]) (by simp [results, Try.results77, go_sem, z0, z1]) rfl ⟨rfl, BX5.out.ends _ _⟩
  have e7 : (op == 7) = false := by simpa using n7
  have e8 : (op == 8) = false := by simpa using n8
  have e9 : (op == 9) = false := by simpa using n9
  clear n7 n8 n9
  by_cases h1 : q < p
  · clear h
    go_enter Try.func77, Try.ntmps77
    go_wp2_with fail
    refine (empty_any _ _ _).mono ?_
    rintro e w1 ⟨rfl, k⟩
    have BX1 := kept (Box3.start k)
    clear k
    obtain ⟨u0, u1, v0, v1, z0, z1, f0, f1⟩ := BX1.out.cells
    go_wp2_with fail
    refine (none_any _).mono ?_
    rintro e w2 ⟨rfl, k⟩
    have BX2 := kept (BX1.out.next k)
    clear k u0 u1 v0 v1 z0 z1 f0 f1
    obtain ⟨u0, u1, v0, v1, z0, z1, f0, f1⟩ := BX2.out.cells
    go_wp2
    exact bodyPost_ret (v := .agg #[.int .i64 1, .int .i64 0]) (by simp [results, Try.results77, go_sem, z0, z1]) rfl ⟨rfl, BX2.out.ends _ _⟩
  · have h2 : t < s := by omega
    have h3 : p ≤ q := by omega
    clear h
    go_enter Try.func77, Try.ntmps77
    go_wp2_with fail
    refine (empty_any _ _ _).mono ?_
    rintro e w1 ⟨rfl, k⟩
    have BX1 := kept (Box3.start k)
    clear k
    obtain ⟨u0, u1, v0, v1, z0, z1, f0, f1⟩ := BX1.out.cells
    go_wp2_with fail
    refine (empty_any _ _ _).mono ?_
    rintro e w2 ⟨rfl, k⟩
    have BX2 := kept (BX1.out.next k)
    clear k u0 u1 v0 v1 z0 z1 f0 f1
    obtain ⟨u0, u1, v0, v1, z0, z1, f0, f1⟩ := BX2.out.cells
    go_wp2_with fail
    refine (none_any _).mono ?_
    rintro e w3 ⟨rfl, k⟩
    have BX3 := kept (BX2.out.next k)
    clear k u0 u1 v0 v1 z0 z1 f0 f1
    obtain ⟨u0, u1, v0, v1, z0, z1, f0, f1⟩ := BX3.out.cells
    go_wp2
    exact bodyPost_ret (v := .agg #[.int .i64 1, .int .i64 0]) (by simp [results, Try.results77, go_sem, z0, z1]) rfl ⟨rfl, BX3.out.ends _ _⟩

theorem truth_any (op : Int) (a b : Iv.R) (w : World) :
    Calls Try.prog 77 #[.int .i64 op, .agg #[.int .i64 a.lo, .int .i64 a.hi], .agg #[.int .i64 b.lo, .int .i64 b.hi]] w fun e w' => e = .returned (.agg #[.int .i64 (Iv.truth op a b).lo, .int .i64 (Iv.truth op a b).hi]) ∧ Keeps w w' [] := by
  obtain ⟨p, q⟩ := a
  obtain ⟨s, t⟩ := b
  by_cases h : q < p ∨ t < s
  · have e : Iv.truth op ⟨p, q⟩ ⟨s, t⟩ = Iv.none := by unfold Iv.truth; rw [if_pos h]
    rw [e]
    exact truth_none op p q s t h w
  · have h1 : p ≤ q := by omega
    have h2 : s ≤ t := by omega
    by_cases n7 : op = 7
    · subst n7; exact truth_eq p q s t h1 h2 w
    by_cases n8 : op = 8
    · subst n8; exact truth_lt p q s t h1 h2 w
    by_cases n9 : op = 9
    · subst n9; exact truth_le p q s t h1 h2 w
    exact truth_other op p q s t n7 n8 n9 h1 h2 w
end Go.Proofs.Ytppidnjhdefbiaa
