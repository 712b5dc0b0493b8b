/- Package interval: the contracts of the law IntervalGrows: its walk, joined. -/
import Derived.Test.YtppidnjhdefbiaaIvGrowsOut
import Derived.Test.YtppidnjhdefbiaaIvGrowsYes
import Derived.Test.YtppidnjhdefbiaaIvGrowsNo
namespace Go.Proofs.Ytppidnjhdefbiaa
open Go.RowKit
set_option linter.unusedVariables false

theorem walkIntervalGrows (op num : Int) (a b c d : Iv.R) (wa : Iv.Wf a) (wb : Iv.Wf b) (wc : Iv.Wf c) (wd : Iv.Wf d) (w : World) :
    Calls Try.prog 18 #[.int .i64 op, .int .i64 num, .agg #[.int .i64 a.lo, .int .i64 a.hi], .agg #[.int .i64 b.lo, .int .i64 b.hi], .agg #[.int .i64 c.lo, .int .i64 c.hi], .agg #[.int .i64 d.lo, .int .i64 d.hi]] w fun e w' => e = .returned (.bool true) ∧ Below w.heap.size w w' := by
  by_cases h0 : a.hi < a.lo
  · exact igrows_out0 op num a b c d wa wb wc wd  h0 w
  by_cases h1 : b.hi < b.lo
  · exact igrows_out1 op num a b c d wa wb wc wd (by omega) h1 w
  by_cases h2 : a.lo < c.lo
  · exact igrows_out2 op num a b c d wa wb wc wd (by omega) (by omega) h2 w
  by_cases h3 : c.hi < a.hi
  · exact igrows_out3 op num a b c d wa wb wc wd (by omega) (by omega) (by omega) h3 w
  by_cases h4 : b.lo < d.lo
  · exact igrows_out4 op num a b c d wa wb wc wd (by omega) (by omega) (by omega) (by omega) h4 w
  by_cases h5 : d.hi < b.hi
  · exact igrows_out5 op num a b c d wa wb wc wd (by omega) (by omega) (by omega) (by omega) (by omega) h5 w
  rcases Bool.eq_false_or_eq_true (Iv.fits op c d) with hv | hv
  · exact igrows_yes op num a b c d wa wb wc wd (by omega) (by omega) (by omega) (by omega) (by omega) (by omega) hv w
  · exact igrows_no op num a b c d wa wb wc wd (by omega) (by omega) (by omega) (by omega) (by omega) (by omega) hv w
end Go.Proofs.Ytppidnjhdefbiaa
