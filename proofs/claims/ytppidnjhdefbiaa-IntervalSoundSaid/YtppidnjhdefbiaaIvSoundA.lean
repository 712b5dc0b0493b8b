/- Package interval: the contracts of the law IntervalSound: its walk, part A. -/
import Derived.Test.YtppidnjhdefbiaaIvSoundHead
namespace Go.Proofs.Ytppidnjhdefbiaa
open Go.RowKit
set_option linter.unusedVariables false

set_option maxRecDepth 100000 in
set_option maxHeartbeats 8000000 in
theorem isound_out1 (op num x y : Int) (a b : Iv.R) (wa : Iv.Wf a) (wb : Iv.Wf b) (h1 : x < a.lo) (w : World) :
    Calls Try.prog 17 #[.int .i64 op, .agg #[.int .i64 a.lo, .int .i64 a.hi], .agg #[.int .i64 b.lo, .int .i64 b.hi], .int .i64 x, .int .i64 y, .int .i64 num] w fun e w' => e = .returned (.bool true) ∧ Below w.heap.size w w' := by
  clear wa wb
  go_enter Try.func17, Try.ntmps17
  go_wp2_with fail
  refine (ivlives _).mono ?_
  rintro e w1 ⟨rfl, k⟩
  have BX1 := kept (Box2.start k)
  clear k
  obtain ⟨u0, u1, v0, v1⟩ := BX1.out.cells
  go_wp2
  go_ret
  exact ⟨rfl, bel_of BX1.out.keeps⟩

set_option maxRecDepth 100000 in
set_option maxHeartbeats 8000000 in
theorem isound_out2 (op num x y : Int) (a b : Iv.R) (wa : Iv.Wf a) (wb : Iv.Wf b) (h0 : a.lo ≤ x) (h1 : a.hi < x) (w : World) :
    Calls Try.prog 17 #[.int .i64 op, .agg #[.int .i64 a.lo, .int .i64 a.hi], .agg #[.int .i64 b.lo, .int .i64 b.hi], .int .i64 x, .int .i64 y, .int .i64 num] w fun e w' => e = .returned (.bool true) ∧ Below w.heap.size w w' := by
  clear wa wb
  go_enter Try.func17, Try.ntmps17
  go_wp2_with fail
  refine (ivlives _).mono ?_
  rintro e w1 ⟨rfl, k⟩
  have BX1 := kept (Box2.start k)
  clear k
  obtain ⟨u0, u1, v0, v1⟩ := BX1.out.cells
  go_wp2
  go_ret
  exact ⟨rfl, bel_of BX1.out.keeps⟩

set_option maxRecDepth 100000 in
set_option maxHeartbeats 8000000 in
theorem isound_out3 (op num x y : Int) (a b : Iv.R) (wa : Iv.Wf a) (wb : Iv.Wf b) (h00 : a.lo ≤ x) (h0 : x ≤ a.hi) (h1 : y < b.lo) (w : World) :
    Calls Try.prog 17 #[.int .i64 op, .agg #[.int .i64 a.lo, .int .i64 a.hi], .agg #[.int .i64 b.lo, .int .i64 b.hi], .int .i64 x, .int .i64 y, .int .i64 num] w fun e w' => e = .returned (.bool true) ∧ Below w.heap.size w w' := by
  clear wa wb
  go_enter Try.func17, Try.ntmps17
  go_wp2_with fail
  refine (ivlives _).mono ?_
  rintro e w1 ⟨rfl, k⟩
  have BX1 := kept (Box2.start k)
  clear k
  obtain ⟨u0, u1, v0, v1⟩ := BX1.out.cells
  go_wp2
  go_ret
  exact ⟨rfl, bel_of BX1.out.keeps⟩

set_option maxRecDepth 100000 in
set_option maxHeartbeats 8000000 in
theorem isound_out4 (op num x y : Int) (a b : Iv.R) (wa : Iv.Wf a) (wb : Iv.Wf b) (h000 : a.lo ≤ x) (h00 : x ≤ a.hi) (h0 : b.lo ≤ y) (h1 : b.hi < y) (w : World) :
    Calls Try.prog 17 #[.int .i64 op, .agg #[.int .i64 a.lo, .int .i64 a.hi], .agg #[.int .i64 b.lo, .int .i64 b.hi], .int .i64 x, .int .i64 y, .int .i64 num] w fun e w' => e = .returned (.bool true) ∧ Below w.heap.size w w' := by
  clear wa wb
  go_enter Try.func17, Try.ntmps17
  go_wp2_with fail
  refine (ivlives _).mono ?_
  rintro e w1 ⟨rfl, k⟩
  have BX1 := kept (Box2.start k)
  clear k
  obtain ⟨u0, u1, v0, v1⟩ := BX1.out.cells
  go_wp2
  go_ret
  exact ⟨rfl, bel_of BX1.out.keeps⟩

set_option maxRecDepth 100000 in
set_option maxHeartbeats 8000000 in
theorem isound_other (op num x y : Int) (a b : Iv.R) (wa : Iv.Wf a) (wb : Iv.Wf b) (h1 : a.lo ≤ x) (h2 : x ≤ a.hi) (h3 : b.lo ≤ y) (h4 : y ≤ b.hi) (hn : ¬ (op = 2 ∨ op = 3 ∨ op = 4 ∨ op = 5 ∨ op = 6 ∨ op = 7 ∨ op = 8 ∨ op = 9)) (w : World) :
    Calls Try.prog 17 #[.int .i64 op, .agg #[.int .i64 a.lo, .int .i64 a.hi], .agg #[.int .i64 b.lo, .int .i64 b.hi], .int .i64 x, .int .i64 y, .int .i64 num] w fun e w' => e = .returned (.bool true) ∧ Below w.heap.size w w' := by
  obtain ⟨c, hc⟩ : ∃ c, Iv.cut num a b = c := ⟨_, rfl⟩
  have hcs := Iv.cut_sound num wa h1 h2 h3 h4
  rw [hc] at hcs
  have CC := kept (fun w => cut_of hc wa wb w)
  clear hc
  have e2 : (op == 2) = false := by simp; omega
  have e3 : (op == 3) = false := by simp; omega
  have e4 : (op == 4) = false := by simp; omega
  have e5 : (op == 5) = false := by simp; omega
  have e6 : (op == 6) = false := by simp; omega
  have e7 : (op == 7) = false := by simp; omega
  have e8 : (op == 8) = false := by simp; omega
  have e9 : (op == 9) = false := by simp; omega
  clear hn wa wb
  go_enter Try.func17, Try.ntmps17
  go_wp2_with fail
  refine (ivlives _).mono ?_
  rintro e w1 ⟨rfl, k⟩
  have BX1 := kept (Box2.start k)
  clear k
  obtain ⟨u0, u1, v0, v1⟩ := BX1.out.cells
  rcases Bool.eq_false_or_eq_true (Iv.has c x) with hx | hx
  · have CH := kept (fun w => has_of hx w)
    clear hx hcs
    go_wp2_with fail
    refine (CC.out _).mono ?_
    rintro e w2 ⟨rfl, k⟩
    have BX2 := kept (BX1.out.next k)
    clear k u0 u1 v0 v1
    obtain ⟨u0, u1, v0, v1⟩ := BX2.out.cells
    go_wp2_with fail
    refine (CH.out _).mono ?_
    rintro e w3 ⟨rfl, k⟩
    have BX3 := kept (BX2.out.next k)
    clear k u0 u1 v0 v1
    obtain ⟨u0, u1, v0, v1⟩ := BX3.out.cells
    go_wp2
    go_ret
    exact ⟨rfl, bel_of BX3.out.keeps⟩
  · have CI := kept (fun w => is_of (show Iv.is num x y = false by rw [hx] at hcs; simpa using hcs) w)
    have CH := kept (fun w => has_of hx w)
    clear hx hcs
    go_wp2_with fail
    refine (CC.out _).mono ?_
    rintro e w2 ⟨rfl, k⟩
    have BX2 := kept (BX1.out.next k)
    clear k u0 u1 v0 v1
    obtain ⟨u0, u1, v0, v1⟩ := BX2.out.cells
    go_wp2_with fail
    refine (CH.out _).mono ?_
    rintro e w3 ⟨rfl, k⟩
    have BX3 := kept (BX2.out.next k)
    clear k u0 u1 v0 v1
    obtain ⟨u0, u1, v0, v1⟩ := BX3.out.cells
    go_wp2_with fail
    refine (CI.out _).mono ?_
    rintro e w' ⟨rfl, rfl⟩
    go_wp2
    go_ret
    exact ⟨rfl, bel_of BX3.out.keeps⟩
end Go.Proofs.Ytppidnjhdefbiaa
