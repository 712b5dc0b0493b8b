/- Package interval: the contracts of the law IntervalGrows: where the greater ones fit. -/
import Derived.Test.YtppidnjhdefbiaaIvGrowsHead
namespace Go.Proofs.Ytppidnjhdefbiaa
open Go.RowKit
set_option linter.unusedVariables false

set_option maxRecDepth 100000 in
set_option maxHeartbeats 8000000 in
theorem igrows_yes (op num : Int) (a b c d : Iv.R) (wa : Iv.Wf a) (wb : Iv.Wf b) (wc : Iv.Wf c) (wd : Iv.Wf d) (g0 : a.lo ≤ a.hi) (g1 : b.lo ≤ b.hi) (g2 : c.lo ≤ a.lo) (g3 : a.hi ≤ c.hi) (g4 : d.lo ≤ b.lo) (g5 : b.hi ≤ d.hi) (hvc : Iv.fits op c d = true) (w : World) :
    Calls Try.prog 18 #[.int .i64 op, .int .i64 num, .agg #[.int .i64 a.lo, .int .i64 a.hi], .agg #[.int .i64 b.lo, .int .i64 b.hi], .agg #[.int .i64 c.lo, .int .i64 c.hi], .agg #[.int .i64 d.lo, .int .i64 d.hi]] w fun e w' => e = .returned (.bool true) ∧ Below w.heap.size w w' := by
  have H1 := Iv.apply_grow op wc wd g0 g1 g2 g3 g4 g5
  have H2 := Iv.clip_grow op wc wd g0 g1 g2 g3 g4 g5
  have H3 := Iv.truth_grow op g0 g1 g2 g3 g4 g5
  have H4 := Iv.cut_grow num wc g0 g1 g2 g3 g4 g5
  have H5 := fun h => Iv.fits_grow op g0 g1 g2 g3 g4 g5 h
  obtain ⟨r1, e1⟩ : ∃ r, Iv.apply op a b = r := ⟨_, rfl⟩
  obtain ⟨s1, f1⟩ : ∃ r, Iv.apply op c d = r := ⟨_, rfl⟩
  obtain ⟨r2, e2⟩ : ∃ r, Iv.clip op a b = r := ⟨_, rfl⟩
  obtain ⟨s2, f2⟩ : ∃ r, Iv.clip op c d = r := ⟨_, rfl⟩
  obtain ⟨r3, e3⟩ : ∃ r, Iv.truth op a b = r := ⟨_, rfl⟩
  obtain ⟨s3, f3⟩ : ∃ r, Iv.truth op c d = r := ⟨_, rfl⟩
  obtain ⟨r4, e4⟩ : ∃ r, Iv.cut num a b = r := ⟨_, rfl⟩
  obtain ⟨s4, f4⟩ : ∃ r, Iv.cut num c d = r := ⟨_, rfl⟩
  rw [e1, f1] at H1
  rw [e2, f2] at H2
  rw [e3, f3] at H3
  rw [e4, f4] at H4
  have A1 := kept (fun w => apply_of e1 wa wb w)
  have B1 := kept (fun w => apply_of f1 wc wd w)
  have W1 := kept (fun w => within_of H1 w)
  have A2 := kept (fun w => clip_of e2 wa wb w)
  have B2 := kept (fun w => clip_of f2 wc wd w)
  have W2 := kept (fun w => within_of H2 w)
  have A3 := kept (fun w => truth_of e3 w)
  have B3 := kept (fun w => truth_of f3 w)
  have W3 := kept (fun w => within_of H3 w)
  have A4 := kept (fun w => cut_of e4 wa wb w)
  have B4 := kept (fun w => cut_of f4 wc wd w)
  have W4 := kept (fun w => within_of H4 w)
  have F2 := kept (fun w => fits_of hvc wc wd w)
  have F1' := fun v (h : Iv.fits op a b = v) => fun w => fits_of h wa wb w
  clear e1 f1 e2 f2 e3 f3 e4 f4 H1 H2 H3 H4 wa wb wc wd
  have F1 := kept (F1' true (H5 hvc))
  clear F1' H5 hvc
  go_enter Try.func18, Try.ntmps18
  go_wp2_with fail
  refine (ivlives _).mono ?_
  rintro e w1 ⟨rfl, k⟩
  have BX := kept (Box4.start k)
  clear k
  obtain ⟨c0, c1, c2, c3, c4, c5, c6, c7⟩ := BX.out.cells
  go_wp2
  go_region_held3 (fun w' => w'.cell? ⟨w.heap.size, 0, none⟩ = some (.int .i64 a.lo) ∧ w'.cell? ⟨w.heap.size, 1, none⟩ = some (.int .i64 a.hi) ∧ w'.cell? ⟨w.heap.size + 1, 0, none⟩ = some (.int .i64 b.lo) ∧ w'.cell? ⟨w.heap.size + 1, 1, none⟩ = some (.int .i64 b.hi) ∧ w'.cell? ⟨w.heap.size + 1 + 1, 0, none⟩ = some (.int .i64 c.lo) ∧ w'.cell? ⟨w.heap.size + 1 + 1, 1, none⟩ = some (.int .i64 c.hi) ∧ w'.cell? ⟨w.heap.size + 1 + 1 + 1, 0, none⟩ = some (.int .i64 d.lo) ∧ w'.cell? ⟨w.heap.size + 1 + 1 + 1, 1, none⟩ = some (.int .i64 d.hi)) (go_keep) (first | (go_at_call 78; (with_reducible refine (A1.out _).mono ?_); rintro e wx ⟨rfl, k⟩; have bx := BX.out.later k (by first | exact Keeps.refl _ [] | exact (Keeps.refl _ []).drew); obtain ⟨c0, c1, c2, c3, c4, c5, c6, c7⟩ := bx.cells; have BX := kept bx; clear k bx) | (go_at_call 78; (with_reducible refine (B1.out _).mono ?_); rintro e wx ⟨rfl, k⟩; have bx := BX.out.later k (by first | exact Keeps.refl _ [] | exact (Keeps.refl _ []).drew); obtain ⟨c0, c1, c2, c3, c4, c5, c6, c7⟩ := bx.cells; have BX := kept bx; clear k bx) | (go_at_call 68; (with_reducible refine (W1.out _).mono ?_); rintro e wx ⟨rfl, k⟩; have bx := BX.out.later k (by first | exact Keeps.refl _ [] | exact (Keeps.refl _ []).drew); obtain ⟨c0, c1, c2, c3, c4, c5, c6, c7⟩ := bx.cells; have BX := kept bx; clear k bx) | (go_at_call 80; (with_reducible refine (A2.out _).mono ?_); rintro e wx ⟨rfl, k⟩; have bx := BX.out.later k (by first | exact Keeps.refl _ [] | exact (Keeps.refl _ []).drew); obtain ⟨c0, c1, c2, c3, c4, c5, c6, c7⟩ := bx.cells; have BX := kept bx; clear k bx) | (go_at_call 80; (with_reducible refine (B2.out _).mono ?_); rintro e wx ⟨rfl, k⟩; have bx := BX.out.later k (by first | exact Keeps.refl _ [] | exact (Keeps.refl _ []).drew); obtain ⟨c0, c1, c2, c3, c4, c5, c6, c7⟩ := bx.cells; have BX := kept bx; clear k bx) | (go_at_call 68; (with_reducible refine (W2.out _).mono ?_); rintro e wx ⟨rfl, k⟩; have bx := BX.out.later k (by first | exact Keeps.refl _ [] | exact (Keeps.refl _ []).drew); obtain ⟨c0, c1, c2, c3, c4, c5, c6, c7⟩ := bx.cells; have BX := kept bx; clear k bx) | (go_at_call 77; (with_reducible refine (A3.out _).mono ?_); rintro e wx ⟨rfl, k⟩; have bx := BX.out.later k (by first | exact Keeps.refl _ [] | exact (Keeps.refl _ []).drew); obtain ⟨c0, c1, c2, c3, c4, c5, c6, c7⟩ := bx.cells; have BX := kept bx; clear k bx) | (go_at_call 77; (with_reducible refine (B3.out _).mono ?_); rintro e wx ⟨rfl, k⟩; have bx := BX.out.later k (by first | exact Keeps.refl _ [] | exact (Keeps.refl _ []).drew); obtain ⟨c0, c1, c2, c3, c4, c5, c6, c7⟩ := bx.cells; have BX := kept bx; clear k bx) | (go_at_call 68; (with_reducible refine (W3.out _).mono ?_); rintro e wx ⟨rfl, k⟩; have bx := BX.out.later k (by first | exact Keeps.refl _ [] | exact (Keeps.refl _ []).drew); obtain ⟨c0, c1, c2, c3, c4, c5, c6, c7⟩ := bx.cells; have BX := kept bx; clear k bx) | (go_at_call 79; (with_reducible refine (A4.out _).mono ?_); rintro e wx ⟨rfl, k⟩; have bx := BX.out.later k (by first | exact Keeps.refl _ [] | exact (Keeps.refl _ []).drew); obtain ⟨c0, c1, c2, c3, c4, c5, c6, c7⟩ := bx.cells; have BX := kept bx; clear k bx) | (go_at_call 79; (with_reducible refine (B4.out _).mono ?_); rintro e wx ⟨rfl, k⟩; have bx := BX.out.later k (by first | exact Keeps.refl _ [] | exact (Keeps.refl _ []).drew); obtain ⟨c0, c1, c2, c3, c4, c5, c6, c7⟩ := bx.cells; have BX := kept bx; clear k bx) | (go_at_call 68; (with_reducible refine (W4.out _).mono ?_); rintro e wx ⟨rfl, k⟩; have bx := BX.out.later k (by first | exact Keeps.refl _ [] | exact (Keeps.refl _ []).drew); obtain ⟨c0, c1, c2, c3, c4, c5, c6, c7⟩ := bx.cells; have BX := kept bx; clear k bx) | (go_at_call 81; (with_reducible refine (F2.out _).mono ?_); rintro e wx ⟨rfl, k⟩; have bx := BX.out.later k (by first | exact Keeps.refl _ [] | exact (Keeps.refl _ []).drew); obtain ⟨c0, c1, c2, c3, c4, c5, c6, c7⟩ := bx.cells; have BX := kept bx; clear k bx) | (go_at_call 81; (with_reducible refine (F1.out _).mono ?_); rintro e wx ⟨rfl, k⟩; have bx := BX.out.later k (by first | exact Keeps.refl _ [] | exact (Keeps.refl _ []).drew); obtain ⟨c0, c1, c2, c3, c4, c5, c6, c7⟩ := bx.cells; have BX := kept bx; clear k bx))
  go_wp2
  go_ret
  exact ⟨rfl, bel_of BX.out.keeps⟩
end Go.Proofs.Ytppidnjhdefbiaa
