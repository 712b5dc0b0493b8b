/- Package interval: the contracts of the law IntervalSound: its walk, part E. -/
import Derived.Test.YtppidnjhdefbiaaIvSoundHead
namespace Go.Proofs.Ytppidnjhdefbiaa
open Go.RowKit
set_option linter.unusedVariables false

set_option maxRecDepth 100000 in
set_option maxHeartbeats 8000000 in
theorem isound_div0 (num x y : Int) (a b : Iv.R) (wa : Iv.Wf a) (wb : Iv.Wf b) (h1 : a.lo ≤ x) (h2 : x ≤ a.hi) (h3 : b.lo ≤ y) (h4 : y ≤ b.hi) (hy : y = 0) (w : World) :
    Calls Try.prog 17 #[.int .i64 5, .agg #[.int .i64 a.lo, .int .i64 a.hi], .agg #[.int .i64 b.lo, .int .i64 b.hi], .int .i64 x, .int .i64 y, .int .i64 num] w fun e w' => e = .returned (.bool true) ∧ Below w.heap.size w w' := by
  obtain ⟨c, hc⟩ : ∃ c, Iv.cut num a b = c := ⟨_, rfl⟩
  have hcs := Iv.cut_sound num wa h1 h2 h3 h4
  rw [hc] at hcs
  have CC := kept (fun w => cut_of hc wa wb w)
  clear hc wa wb
  subst hy
  go_enter Try.func17, Try.ntmps17
  go_wp2_with fail
  refine (ivlives _).mono ?_
  rintro e w1 ⟨rfl, k⟩
  have BX1 := kept (Box2.start k)
  clear k
  obtain ⟨u0, u1, v0, v1⟩ := BX1.out.cells
  rcases Bool.eq_false_or_eq_true (Iv.has c x) with hx | hx
  · have CH := kept (fun w => has_of hx w)
    clear hx hcs
    go_wp2_with fail
    refine (CC.out _).mono ?_
    rintro e w2 ⟨rfl, k⟩
    have BX2 := kept (BX1.out.next k)
    clear k u0 u1 v0 v1
    obtain ⟨u0, u1, v0, v1⟩ := BX2.out.cells
    go_wp2_with fail
    refine (CH.out _).mono ?_
    rintro e w3 ⟨rfl, k⟩
    have BX3 := kept (BX2.out.next k)
    clear k u0 u1 v0 v1
    obtain ⟨u0, u1, v0, v1⟩ := BX3.out.cells
    go_wp2
    go_ret
    exact ⟨rfl, bel_of BX3.out.keeps⟩
  · have CI := kept (fun w => is_of (show Iv.is num x 0 = false by rw [hx] at hcs; simpa using hcs) w)
    have CH := kept (fun w => has_of hx w)
    clear hx hcs
    go_wp2_with fail
    refine (CC.out _).mono ?_
    rintro e w2 ⟨rfl, k⟩
    have BX2 := kept (BX1.out.next k)
    clear k u0 u1 v0 v1
    obtain ⟨u0, u1, v0, v1⟩ := BX2.out.cells
    go_wp2_with fail
    refine (CH.out _).mono ?_
    rintro e w3 ⟨rfl, k⟩
    have BX3 := kept (BX2.out.next k)
    clear k u0 u1 v0 v1
    obtain ⟨u0, u1, v0, v1⟩ := BX3.out.cells
    go_wp2_with fail
    refine (CI.out _).mono ?_
    rintro e w' ⟨rfl, rfl⟩
    go_wp2
    go_ret
    exact ⟨rfl, bel_of BX3.out.keeps⟩

set_option maxRecDepth 100000 in
set_option maxHeartbeats 8000000 in
theorem isound_div (num x y : Int) (a b : Iv.R) (wa : Iv.Wf a) (wb : Iv.Wf b) (h1 : a.lo ≤ x) (h2 : x ≤ a.hi) (h3 : b.lo ≤ y) (h4 : y ≤ b.hi) (hy : ¬ y = 0) (w : World) :
    Calls Try.prog 17 #[.int .i64 5, .agg #[.int .i64 a.lo, .int .i64 a.hi], .agg #[.int .i64 b.lo, .int .i64 b.hi], .int .i64 x, .int .i64 y, .int .i64 num] w fun e w' => e = .returned (.bool true) ∧ Below w.heap.size w w' := by
  obtain ⟨c, hc⟩ : ∃ c, Iv.cut num a b = c := ⟨_, rfl⟩
  have hcs := Iv.cut_sound num wa h1 h2 h3 h4
  rw [hc] at hcs
  have CC := kept (fun w => cut_of hc wa wb w)
  have wx : inI x = true := by rw [inI_iff]; have := wa; unfold Iv.Wf Iv.MIN Iv.MAX at this; omega
  have wy : inI y = true := by rw [inI_iff]; have := wb; unfold Iv.Wf Iv.MIN Iv.MAX at this; omega
  obtain ⟨r, hr⟩ : ∃ r, Iv.apply 5 a b = r := ⟨_, rfl⟩
  have hap := Iv.apply_div wa wb h1 h2 h3 h4 hy (wrap64 (x.tdiv y)) (by unfold Iv.MIN Iv.MAX; rw [wrap64_eq]; omega) (fun h => wrap64_id (by rw [← fit_inI]; exact h))
  rw [hr] at hap
  have CA := kept (fun w => apply_of hr wa wb w)
  have CAH := kept (fun w => has_of hap w)
  have CD := kept (fun w => refdiv_any x y w wx hy)
  have hy' : (y != 0) = true := by simpa using hy
  generalize wrap64 (x.tdiv y) = q at *
  generalize x.tmod y = m at *
  clear hr hap hc wa wb wx wy hy
  go_enter Try.func17, Try.ntmps17
  go_wp2_with fail
  refine (ivlives _).mono ?_
  rintro e w1 ⟨rfl, k⟩
  have BX1 := kept (Box2.start k)
  clear k
  obtain ⟨u0, u1, v0, v1⟩ := BX1.out.cells
  go_wp2_with fail
  refine (CD.out _).mono ?_
  rintro e w2 ⟨rfl, nq, hd⟩
  have BX2 := kept (BX1.out.next (w'' := w2) (by rw [hd]; exact (Keeps.refl _ []).drewN nq))
  clear hd u0 u1 v0 v1
  obtain ⟨u0, u1, v0, v1⟩ := BX2.out.cells
  go_wp2_with fail
  refine (CA.out _).mono ?_
  rintro e w3 ⟨rfl, k⟩
  have BX3 := kept (BX2.out.next k)
  clear k u0 u1 v0 v1
  obtain ⟨u0, u1, v0, v1⟩ := BX3.out.cells
  go_wp2_with fail
  refine (CAH.out _).mono ?_
  rintro e w4 ⟨rfl, k⟩
  have BX4 := kept (BX3.out.next k)
  clear k u0 u1 v0 v1
  obtain ⟨u0, u1, v0, v1⟩ := BX4.out.cells
  rcases Bool.eq_false_or_eq_true (Iv.has c x) with hx | hx
  · have CH := kept (fun w => has_of hx w)
    clear hx hcs
    go_wp2_with fail
    refine (CC.out _).mono ?_
    rintro e w5 ⟨rfl, k⟩
    have BX5 := kept (BX4.out.next k)
    clear k u0 u1 v0 v1
    obtain ⟨u0, u1, v0, v1⟩ := BX5.out.cells
    go_wp2_with fail
    refine (CH.out _).mono ?_
    rintro e w6 ⟨rfl, k⟩
    have BX6 := kept (BX5.out.next k)
    clear k u0 u1 v0 v1
    obtain ⟨u0, u1, v0, v1⟩ := BX6.out.cells
    go_wp2
    go_ret
    exact ⟨rfl, bel_of BX6.out.keeps⟩
  · have CI := kept (fun w => is_of (show Iv.is num x y = false by rw [hx] at hcs; simpa using hcs) w)
    have CH := kept (fun w => has_of hx w)
    clear hx hcs
    go_wp2_with fail
    refine (CC.out _).mono ?_
    rintro e w5 ⟨rfl, k⟩
    have BX5 := kept (BX4.out.next k)
    clear k u0 u1 v0 v1
    obtain ⟨u0, u1, v0, v1⟩ := BX5.out.cells
    go_wp2_with fail
    refine (CH.out _).mono ?_
    rintro e w6 ⟨rfl, k⟩
    have BX6 := kept (BX5.out.next k)
    clear k u0 u1 v0 v1
    obtain ⟨u0, u1, v0, v1⟩ := BX6.out.cells
    go_wp2_with fail
    refine (CI.out _).mono ?_
    rintro e w' ⟨rfl, rfl⟩
    go_wp2
    go_ret
    exact ⟨rfl, bel_of BX6.out.keeps⟩

set_option maxRecDepth 100000 in
set_option maxHeartbeats 8000000 in
theorem isound_rem0 (num x y : Int) (a b : Iv.R) (wa : Iv.Wf a) (wb : Iv.Wf b) (h1 : a.lo ≤ x) (h2 : x ≤ a.hi) (h3 : b.lo ≤ y) (h4 : y ≤ b.hi) (hy : y = 0) (w : World) :
    Calls Try.prog 17 #[.int .i64 6, .agg #[.int .i64 a.lo, .int .i64 a.hi], .agg #[.int .i64 b.lo, .int .i64 b.hi], .int .i64 x, .int .i64 y, .int .i64 num] w fun e w' => e = .returned (.bool true) ∧ Below w.heap.size w w' := by
  obtain ⟨c, hc⟩ : ∃ c, Iv.cut num a b = c := ⟨_, rfl⟩
  have hcs := Iv.cut_sound num wa h1 h2 h3 h4
  rw [hc] at hcs
  have CC := kept (fun w => cut_of hc wa wb w)
  clear hc wa wb
  subst hy
  go_enter Try.func17, Try.ntmps17
  go_wp2_with fail
  refine (ivlives _).mono ?_
  rintro e w1 ⟨rfl, k⟩
  have BX1 := kept (Box2.start k)
  clear k
  obtain ⟨u0, u1, v0, v1⟩ := BX1.out.cells
  rcases Bool.eq_false_or_eq_true (Iv.has c x) with hx | hx
  · have CH := kept (fun w => has_of hx w)
    clear hx hcs
    go_wp2_with fail
    refine (CC.out _).mono ?_
    rintro e w2 ⟨rfl, k⟩
    have BX2 := kept (BX1.out.next k)
    clear k u0 u1 v0 v1
    obtain ⟨u0, u1, v0, v1⟩ := BX2.out.cells
    go_wp2_with fail
    refine (CH.out _).mono ?_
    rintro e w3 ⟨rfl, k⟩
    have BX3 := kept (BX2.out.next k)
    clear k u0 u1 v0 v1
    obtain ⟨u0, u1, v0, v1⟩ := BX3.out.cells
    go_wp2
    go_ret
    exact ⟨rfl, bel_of BX3.out.keeps⟩
  · have CI := kept (fun w => is_of (show Iv.is num x 0 = false by rw [hx] at hcs; simpa using hcs) w)
    have CH := kept (fun w => has_of hx w)
    clear hx hcs
    go_wp2_with fail
    refine (CC.out _).mono ?_
    rintro e w2 ⟨rfl, k⟩
    have BX2 := kept (BX1.out.next k)
    clear k u0 u1 v0 v1
    obtain ⟨u0, u1, v0, v1⟩ := BX2.out.cells
    go_wp2_with fail
    refine (CH.out _).mono ?_
    rintro e w3 ⟨rfl, k⟩
    have BX3 := kept (BX2.out.next k)
    clear k u0 u1 v0 v1
    obtain ⟨u0, u1, v0, v1⟩ := BX3.out.cells
    go_wp2_with fail
    refine (CI.out _).mono ?_
    rintro e w' ⟨rfl, rfl⟩
    go_wp2
    go_ret
    exact ⟨rfl, bel_of BX3.out.keeps⟩

set_option maxRecDepth 100000 in
set_option maxHeartbeats 8000000 in
theorem isound_rem (num x y : Int) (a b : Iv.R) (wa : Iv.Wf a) (wb : Iv.Wf b) (h1 : a.lo ≤ x) (h2 : x ≤ a.hi) (h3 : b.lo ≤ y) (h4 : y ≤ b.hi) (hy : ¬ y = 0) (w : World) :
    Calls Try.prog 17 #[.int .i64 6, .agg #[.int .i64 a.lo, .int .i64 a.hi], .agg #[.int .i64 b.lo, .int .i64 b.hi], .int .i64 x, .int .i64 y, .int .i64 num] w fun e w' => e = .returned (.bool true) ∧ Below w.heap.size w w' := by
  obtain ⟨c, hc⟩ : ∃ c, Iv.cut num a b = c := ⟨_, rfl⟩
  have hcs := Iv.cut_sound num wa h1 h2 h3 h4
  rw [hc] at hcs
  have CC := kept (fun w => cut_of hc wa wb w)
  have wx : inI x = true := by rw [inI_iff]; have := wa; unfold Iv.Wf Iv.MIN Iv.MAX at this; omega
  have wy : inI y = true := by rw [inI_iff]; have := wb; unfold Iv.Wf Iv.MIN Iv.MAX at this; omega
  obtain ⟨r, hr⟩ : ∃ r, Iv.apply 6 a b = r := ⟨_, rfl⟩
  have hap := Iv.apply_rem h1 h2 h3 h4 hy
  rw [hr] at hap
  have CA := kept (fun w => apply_of hr wa wb w)
  have CAH := kept (fun w => has_of hap w)
  have CD := kept (fun w => refdiv_any x y w wx hy)
  have hy' : (y != 0) = true := by simpa using hy
  generalize wrap64 (x.tdiv y) = q at *
  generalize x.tmod y = m at *
  clear hr hap hc wa wb wx wy hy
  go_enter Try.func17, Try.ntmps17
  go_wp2_with fail
  refine (ivlives _).mono ?_
  rintro e w1 ⟨rfl, k⟩
  have BX1 := kept (Box2.start k)
  clear k
  obtain ⟨u0, u1, v0, v1⟩ := BX1.out.cells
  go_wp2_with fail
  refine (CD.out _).mono ?_
  rintro e w2 ⟨rfl, nq, hd⟩
  have BX2 := kept (BX1.out.next (w'' := w2) (by rw [hd]; exact (Keeps.refl _ []).drewN nq))
  clear hd u0 u1 v0 v1
  obtain ⟨u0, u1, v0, v1⟩ := BX2.out.cells
  go_wp2_with fail
  refine (CA.out _).mono ?_
  rintro e w3 ⟨rfl, k⟩
  have BX3 := kept (BX2.out.next k)
  clear k u0 u1 v0 v1
  obtain ⟨u0, u1, v0, v1⟩ := BX3.out.cells
  go_wp2_with fail
  refine (CAH.out _).mono ?_
  rintro e w4 ⟨rfl, k⟩
  have BX4 := kept (BX3.out.next k)
  clear k u0 u1 v0 v1
  obtain ⟨u0, u1, v0, v1⟩ := BX4.out.cells
  rcases Bool.eq_false_or_eq_true (Iv.has c x) with hx | hx
  · have CH := kept (fun w => has_of hx w)
    clear hx hcs
    go_wp2_with fail
    refine (CC.out _).mono ?_
    rintro e w5 ⟨rfl, k⟩
    have BX5 := kept (BX4.out.next k)
    clear k u0 u1 v0 v1
    obtain ⟨u0, u1, v0, v1⟩ := BX5.out.cells
    go_wp2_with fail
    refine (CH.out _).mono ?_
    rintro e w6 ⟨rfl, k⟩
    have BX6 := kept (BX5.out.next k)
    clear k u0 u1 v0 v1
    obtain ⟨u0, u1, v0, v1⟩ := BX6.out.cells
    go_wp2
    go_ret
    exact ⟨rfl, bel_of BX6.out.keeps⟩
  · have CI := kept (fun w => is_of (show Iv.is num x y = false by rw [hx] at hcs; simpa using hcs) w)
    have CH := kept (fun w => has_of hx w)
    clear hx hcs
    go_wp2_with fail
    refine (CC.out _).mono ?_
    rintro e w5 ⟨rfl, k⟩
    have BX5 := kept (BX4.out.next k)
    clear k u0 u1 v0 v1
    obtain ⟨u0, u1, v0, v1⟩ := BX5.out.cells
    go_wp2_with fail
    refine (CH.out _).mono ?_
    rintro e w6 ⟨rfl, k⟩
    have BX6 := kept (BX5.out.next k)
    clear k u0 u1 v0 v1
    obtain ⟨u0, u1, v0, v1⟩ := BX6.out.cells
    go_wp2_with fail
    refine (CI.out _).mono ?_
    rintro e w' ⟨rfl, rfl⟩
    go_wp2
    go_ret
    exact ⟨rfl, bel_of BX6.out.keeps⟩
end Go.Proofs.Ytppidnjhdefbiaa
