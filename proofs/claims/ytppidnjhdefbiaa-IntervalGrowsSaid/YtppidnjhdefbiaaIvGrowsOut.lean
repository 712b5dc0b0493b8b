/- Package interval: the contracts of the law IntervalGrows: ranges that aren't within. -/
import Derived.Test.YtppidnjhdefbiaaIvGrowsHead
namespace Go.Proofs.Ytppidnjhdefbiaa
open Go.RowKit
set_option linter.unusedVariables false

set_option maxRecDepth 100000 in
set_option maxHeartbeats 8000000 in
theorem igrows_out0 (op num : Int) (a b c d : Iv.R) (wa : Iv.Wf a) (wb : Iv.Wf b) (wc : Iv.Wf c) (wd : Iv.Wf d) (h : a.hi < a.lo) (w : World) :
    Calls Try.prog 18 #[.int .i64 op, .int .i64 num, .agg #[.int .i64 a.lo, .int .i64 a.hi], .agg #[.int .i64 b.lo, .int .i64 b.hi], .agg #[.int .i64 c.lo, .int .i64 c.hi], .agg #[.int .i64 d.lo, .int .i64 d.hi]] w fun e w' => e = .returned (.bool true) ∧ Below w.heap.size w w' := by
  clear wa wb wc wd
  go_enter Try.func18, Try.ntmps18
  go_wp2_with fail
  refine (ivlives _).mono ?_
  rintro e w1 ⟨rfl, k⟩
  have BX := kept (Box4.start k)
  clear k
  obtain ⟨c0, c1, c2, c3, c4, c5, c6, c7⟩ := BX.out.cells
  go_wp2
  go_ret
  exact ⟨rfl, bel_of BX.out.keeps⟩

set_option maxRecDepth 100000 in
set_option maxHeartbeats 8000000 in
theorem igrows_out1 (op num : Int) (a b c d : Iv.R) (wa : Iv.Wf a) (wb : Iv.Wf b) (wc : Iv.Wf c) (wd : Iv.Wf d) (g0 : a.lo ≤ a.hi) (h : b.hi < b.lo) (w : World) :
    Calls Try.prog 18 #[.int .i64 op, .int .i64 num, .agg #[.int .i64 a.lo, .int .i64 a.hi], .agg #[.int .i64 b.lo, .int .i64 b.hi], .agg #[.int .i64 c.lo, .int .i64 c.hi], .agg #[.int .i64 d.lo, .int .i64 d.hi]] w fun e w' => e = .returned (.bool true) ∧ Below w.heap.size w w' := by
  clear wa wb wc wd
  go_enter Try.func18, Try.ntmps18
  go_wp2_with fail
  refine (ivlives _).mono ?_
  rintro e w1 ⟨rfl, k⟩
  have BX := kept (Box4.start k)
  clear k
  obtain ⟨c0, c1, c2, c3, c4, c5, c6, c7⟩ := BX.out.cells
  go_wp2
  go_ret
  exact ⟨rfl, bel_of BX.out.keeps⟩

set_option maxRecDepth 100000 in
set_option maxHeartbeats 8000000 in
theorem igrows_out2 (op num : Int) (a b c d : Iv.R) (wa : Iv.Wf a) (wb : Iv.Wf b) (wc : Iv.Wf c) (wd : Iv.Wf d) (g0 : a.lo ≤ a.hi) (g1 : b.lo ≤ b.hi) (h : a.lo < c.lo) (w : World) :
    Calls Try.prog 18 #[.int .i64 op, .int .i64 num, .agg #[.int .i64 a.lo, .int .i64 a.hi], .agg #[.int .i64 b.lo, .int .i64 b.hi], .agg #[.int .i64 c.lo, .int .i64 c.hi], .agg #[.int .i64 d.lo, .int .i64 d.hi]] w fun e w' => e = .returned (.bool true) ∧ Below w.heap.size w w' := by
  clear wa wb wc wd
  go_enter Try.func18, Try.ntmps18
  go_wp2_with fail
  refine (ivlives _).mono ?_
  rintro e w1 ⟨rfl, k⟩
  have BX := kept (Box4.start k)
  clear k
  obtain ⟨c0, c1, c2, c3, c4, c5, c6, c7⟩ := BX.out.cells
  go_wp2
  go_ret
  exact ⟨rfl, bel_of BX.out.keeps⟩

set_option maxRecDepth 100000 in
set_option maxHeartbeats 8000000 in
theorem igrows_out3 (op num : Int) (a b c d : Iv.R) (wa : Iv.Wf a) (wb : Iv.Wf b) (wc : Iv.Wf c) (wd : Iv.Wf d) (g0 : a.lo ≤ a.hi) (g1 : b.lo ≤ b.hi) (g2 : c.lo ≤ a.lo) (h : c.hi < a.hi) (w : World) :
    Calls Try.prog 18 #[.int .i64 op, .int .i64 num, .agg #[.int .i64 a.lo, .int .i64 a.hi], .agg #[.int .i64 b.lo, .int .i64 b.hi], .agg #[.int .i64 c.lo, .int .i64 c.hi], .agg #[.int .i64 d.lo, .int .i64 d.hi]] w fun e w' => e = .returned (.bool true) ∧ Below w.heap.size w w' := by
  clear wa wb wc wd
  go_enter Try.func18, Try.ntmps18
  go_wp2_with fail
  refine (ivlives _).mono ?_
  rintro e w1 ⟨rfl, k⟩
  have BX := kept (Box4.start k)
  clear k
  obtain ⟨c0, c1, c2, c3, c4, c5, c6, c7⟩ := BX.out.cells
  go_wp2
  go_ret
  exact ⟨rfl, bel_of BX.out.keeps⟩

set_option maxRecDepth 100000 in
set_option maxHeartbeats 8000000 in
theorem igrows_out4 (op num : Int) (a b c d : Iv.R) (wa : Iv.Wf a) (wb : Iv.Wf b) (wc : Iv.Wf c) (wd : Iv.Wf d) (g0 : a.lo ≤ a.hi) (g1 : b.lo ≤ b.hi) (g2 : c.lo ≤ a.lo) (g3 : a.hi ≤ c.hi) (h : b.lo < d.lo) (w : World) :
    Calls Try.prog 18 #[.int .i64 op, .int .i64 num, .agg #[.int .i64 a.lo, .int .i64 a.hi], .agg #[.int .i64 b.lo, .int .i64 b.hi], .agg #[.int .i64 c.lo, .int .i64 c.hi], .agg #[.int .i64 d.lo, .int .i64 d.hi]] w fun e w' => e = .returned (.bool true) ∧ Below w.heap.size w w' := by
  clear wa wb wc wd
  go_enter Try.func18, Try.ntmps18
  go_wp2_with fail
  refine (ivlives _).mono ?_
  rintro e w1 ⟨rfl, k⟩
  have BX := kept (Box4.start k)
  clear k
  obtain ⟨c0, c1, c2, c3, c4, c5, c6, c7⟩ := BX.out.cells
  go_wp2
  go_ret
  exact ⟨rfl, bel_of BX.out.keeps⟩

set_option maxRecDepth 100000 in
set_option maxHeartbeats 8000000 in
theorem igrows_out5 (op num : Int) (a b c d : Iv.R) (wa : Iv.Wf a) (wb : Iv.Wf b) (wc : Iv.Wf c) (wd : Iv.Wf d) (g0 : a.lo ≤ a.hi) (g1 : b.lo ≤ b.hi) (g2 : c.lo ≤ a.lo) (g3 : a.hi ≤ c.hi) (g4 : d.lo ≤ b.lo) (h : d.hi < b.hi) (w : World) :
    Calls Try.prog 18 #[.int .i64 op, .int .i64 num, .agg #[.int .i64 a.lo, .int .i64 a.hi], .agg #[.int .i64 b.lo, .int .i64 b.hi], .agg #[.int .i64 c.lo, .int .i64 c.hi], .agg #[.int .i64 d.lo, .int .i64 d.hi]] w fun e w' => e = .returned (.bool true) ∧ Below w.heap.size w w' := by
  clear wa wb wc wd
  go_enter Try.func18, Try.ntmps18
  go_wp2_with fail
  refine (ivlives _).mono ?_
  rintro e w1 ⟨rfl, k⟩
  have BX := kept (Box4.start k)
  clear k
  obtain ⟨c0, c1, c2, c3, c4, c5, c6, c7⟩ := BX.out.cells
  go_wp2
  go_ret
  exact ⟨rfl, bel_of BX.out.keeps⟩
end Go.Proofs.Ytppidnjhdefbiaa
