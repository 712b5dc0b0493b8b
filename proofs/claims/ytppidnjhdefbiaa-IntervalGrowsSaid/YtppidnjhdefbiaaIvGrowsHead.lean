/- Package interval: the contracts of the law IntervalGrows: its walk. -/
import Derived.Test.YtppidnjhdefbiaaIvSoundHead
import Derived.Deep.RegionHeld3
namespace Go.Proofs.Ytppidnjhdefbiaa
open Go.RowKit
set_option linter.unusedVariables false

theorem fits_of {v : Bool} {op : Int} {a b : Iv.R} (h : Iv.fits op a b = v) (wa : Iv.Wf a) (wb : Iv.Wf b) (w : World) : Calls Try.prog 81 #[.int .i64 op, .agg #[.int .i64 a.lo, .int .i64 a.hi], .agg #[.int .i64 b.lo, .int .i64 b.hi]] w fun e w' => e = .returned (.bool v) ∧ Keeps w w' [] := by
  subst h; exact fits_any op a b wa wb w
/-- four ranges by value, behind calls -/
structure Box4 (w w' : World) (a b c d : Iv.R) : Prop where
  keeps : Keeps w w' []
  ba : Blk w' w.heap.size 86 #[.int .i64 a.lo, .int .i64 a.hi]
  bb : Blk w' (w.heap.size + 1) 86 #[.int .i64 b.lo, .int .i64 b.hi]
  bc : Blk w' (w.heap.size + 1 + 1) 86 #[.int .i64 c.lo, .int .i64 c.hi]
  bd : Blk w' (w.heap.size + 1 + 1 + 1) 86 #[.int .i64 d.lo, .int .i64 d.hi]
section
variable {w w' w'' w0 : World} {a b c d : Iv.R}
theorem Box4.start (k : Keeps ((((w.alloc (.cells #[.int .i64 a.lo, .int .i64 a.hi] 86)).alloc (.cells #[.int .i64 b.lo, .int .i64 b.hi] 86)).alloc (.cells #[.int .i64 c.lo, .int .i64 c.hi] 86)).alloc (.cells #[.int .i64 d.lo, .int .i64 d.hi] 86)) w' []) : Box4 w w' a b c d := by
  obtain ⟨h1, h2, h3, h4⟩ := box3 (w := w) (w' := w') (((Keeps.refl _ []).alloc _).next k)
  refine ⟨h1, h2, h3, h4, ?_⟩
  have h := (Blk.new (((w.alloc (.cells #[.int .i64 a.lo, .int .i64 a.hi] 86)).alloc (.cells #[.int .i64 b.lo, .int .i64 b.hi] 86)).alloc (.cells #[.int .i64 c.lo, .int .i64 c.hi] 86)) 86 #[.int .i64 d.lo, .int .i64 d.hi]).keep k (by simp)
  simpa using h
theorem Box4.next (h : Box4 w w' a b c d) (k : Keeps w' w'' []) : Box4 w w'' a b c d := ⟨h.keeps.next k, h.ba.keep k (by simp), h.bb.keep k (by simp), h.bc.keep k (by simp), h.bd.keep k (by simp)⟩
theorem Box4.later (h : Box4 w w' a b c d) (k : Keeps w0 w'' []) (e : Keeps w' w0 []) : Box4 w w'' a b c d := (h.next e).next k
theorem Box4.cells (h : Box4 w w' a b c d) : w'.cell? ⟨w.heap.size, 0, none⟩ = some (.int .i64 a.lo) ∧ w'.cell? ⟨w.heap.size, 1, none⟩ = some (.int .i64 a.hi) ∧ w'.cell? ⟨w.heap.size + 1, 0, none⟩ = some (.int .i64 b.lo) ∧ w'.cell? ⟨w.heap.size + 1, 1, none⟩ = some (.int .i64 b.hi) ∧
    w'.cell? ⟨w.heap.size + 1 + 1, 0, none⟩ = some (.int .i64 c.lo) ∧ w'.cell? ⟨w.heap.size + 1 + 1, 1, none⟩ = some (.int .i64 c.hi) ∧ w'.cell? ⟨w.heap.size + 1 + 1 + 1, 0, none⟩ = some (.int .i64 d.lo) ∧ w'.cell? ⟨w.heap.size + 1 + 1 + 1, 1, none⟩ = some (.int .i64 d.hi) :=
  ⟨h.ba.cell 0, h.ba.cell 1, h.bb.cell 0, h.bb.cell 1, h.bc.cell 0, h.bc.cell 1, h.bd.cell 0, h.bd.cell 1⟩
end
end Go.Proofs.Ytppidnjhdefbiaa
