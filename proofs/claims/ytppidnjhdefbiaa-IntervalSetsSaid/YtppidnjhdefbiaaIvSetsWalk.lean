/- Package interval: the law IntervalSets: its walk, joined. -/
import Derived.Test.YtppidnjhdefbiaaIvSetsIn
import Derived.Test.YtppidnjhdefbiaaIvSetsOut
namespace Go.Proofs.Ytppidnjhdefbiaa
open Go.RowKit
set_option linter.unusedVariables false
set_option linter.unusedSimpArgs false

theorem walkIntervalSets (a b : Iv.R) (n : Int) (w : World) :
    Calls Try.prog 15 #[.agg #[.int .i64 a.lo, .int .i64 a.hi], .agg #[.int .i64 b.lo, .int .i64 b.hi], .int .i64 n] w fun e w' => e = .returned (.bool true) ∧ Below w.heap.size w w' := by
  obtain ⟨m, hm⟩ : ∃ m, Iv.meet a b = m := ⟨_, rfl⟩
  obtain ⟨j, hj⟩ : ∃ j, Iv.join a b = j := ⟨_, rfl⟩
  cases hP : Iv.has a n
  · exact sets_false a.lo a.hi b.lo b.hi m.lo m.hi j.lo j.hi n hm hj hP w
  · exact sets_true a.lo a.hi b.lo b.hi m.lo m.hi j.lo j.hi n hm hj hP w
end Go.Proofs.Ytppidnjhdefbiaa
