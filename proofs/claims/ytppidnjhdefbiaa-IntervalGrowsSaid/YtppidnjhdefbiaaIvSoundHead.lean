/- Package interval: the contracts of the law IntervalSound: its walk. -/
import Derived.Test.YtppidnjhdefbiaaIvLives
namespace Go.Proofs.Ytppidnjhdefbiaa
open Go.RowKit
set_option linter.unusedVariables false

theorem bel_of {w w' : World} (k : Keeps w w' []) : Below w.heap.size w w' := k.below (Nat.le_refl _) (by simp)
theorem cut_of {r : Iv.R} {num : Int} {a b : Iv.R} (h : Iv.cut num a b = r) (wa : Iv.Wf a) (wb : Iv.Wf b) (w : World) : Calls Try.prog 79 #[.int .i64 num, .agg #[.int .i64 a.lo, .int .i64 a.hi], .agg #[.int .i64 b.lo, .int .i64 b.hi]] w fun e w' => e = .returned (.agg #[.int .i64 r.lo, .int .i64 r.hi]) ∧ Keeps w w' [] := by
  subst h; exact cut_any num a b wa wb w
theorem apply_of {r : Iv.R} {op : Int} {a b : Iv.R} (h : Iv.apply op a b = r) (wa : Iv.Wf a) (wb : Iv.Wf b) (w : World) : Calls Try.prog 78 #[.int .i64 op, .agg #[.int .i64 a.lo, .int .i64 a.hi], .agg #[.int .i64 b.lo, .int .i64 b.hi]] w fun e w' => e = .returned (.agg #[.int .i64 r.lo, .int .i64 r.hi]) ∧ Keeps w w' [] := by
  subst h; exact apply_any op a b wa wb w
theorem clip_of {r : Iv.R} {op : Int} {a b : Iv.R} (h : Iv.clip op a b = r) (wa : Iv.Wf a) (wb : Iv.Wf b) (w : World) : Calls Try.prog 80 #[.int .i64 op, .agg #[.int .i64 a.lo, .int .i64 a.hi], .agg #[.int .i64 b.lo, .int .i64 b.hi]] w fun e w' => e = .returned (.agg #[.int .i64 r.lo, .int .i64 r.hi]) ∧ Keeps w w' [] := by
  subst h; exact clip_any op a b wa wb w
theorem truth_of {r : Iv.R} {op : Int} {a b : Iv.R} (h : Iv.truth op a b = r) (w : World) : Calls Try.prog 77 #[.int .i64 op, .agg #[.int .i64 a.lo, .int .i64 a.hi], .agg #[.int .i64 b.lo, .int .i64 b.hi]] w fun e w' => e = .returned (.agg #[.int .i64 r.lo, .int .i64 r.hi]) ∧ Keeps w w' [] := by
  subst h; exact truth_any op a b w
theorem is_of {num y z : Int} {v : Bool} (h : Iv.is num y z = v) (w : World) : Calls Try.prog 74 #[.int .i64 num, .int .i64 y, .int .i64 z] w fun e w' => e = .returned (.bool v) ∧ w = w' := by
  subst h; exact is_any num y z w
theorem so_of {op y z : Int} {v : Bool} (h : Iv.so op y z = v) (w : World) : Calls Try.prog 75 #[.int .i64 op, .int .i64 y, .int .i64 z] w fun e w' => e = .returned (.bool v) ∧ w = w' := by
  subst h; exact so_any op y z w
end Go.Proofs.Ytppidnjhdefbiaa
