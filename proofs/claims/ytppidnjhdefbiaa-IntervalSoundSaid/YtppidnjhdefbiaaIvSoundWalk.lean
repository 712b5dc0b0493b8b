/- Package interval: the contracts of the law IntervalSound: its walk, joined. -/
import Derived.Test.YtppidnjhdefbiaaIvSoundA
import Derived.Test.YtppidnjhdefbiaaIvSoundB
import Derived.Test.YtppidnjhdefbiaaIvSoundC
import Derived.Test.YtppidnjhdefbiaaIvSoundD
import Derived.Test.YtppidnjhdefbiaaIvSoundE
import Derived.Test.YtppidnjhdefbiaaIvSoundF
namespace Go.Proofs.Ytppidnjhdefbiaa
open Go.RowKit
set_option linter.unusedVariables false

theorem walkIntervalSound (op : Int) (a b : Iv.R) (x y num : Int) (wa : Iv.Wf a) (wb : Iv.Wf b) (w : World) :
    Calls Try.prog 17 #[.int .i64 op, .agg #[.int .i64 a.lo, .int .i64 a.hi], .agg #[.int .i64 b.lo, .int .i64 b.hi], .int .i64 x, .int .i64 y, .int .i64 num] w fun e w' => e = .returned (.bool true) ∧ Below w.heap.size w w' := by
  by_cases h1 : a.lo ≤ x
  · by_cases h2 : x ≤ a.hi
    · by_cases h3 : b.lo ≤ y
      · by_cases h4 : y ≤ b.hi
        · by_cases n2 : op = 2
          · subst n2; exact isound_add num x y a b wa wb h1 h2 h3 h4 w
          by_cases n3 : op = 3
          · subst n3; exact isound_sub num x y a b wa wb h1 h2 h3 h4 w
          by_cases n4 : op = 4
          · subst n4; exact isound_mul num x y a b wa wb h1 h2 h3 h4 w
          by_cases n5 : op = 5
          · subst n5
            by_cases hy : y = 0
            · exact isound_div0 num x y a b wa wb h1 h2 h3 h4 hy w
            · exact isound_div num x y a b wa wb h1 h2 h3 h4 hy w
          by_cases n6 : op = 6
          · subst n6
            by_cases hy : y = 0
            · exact isound_rem0 num x y a b wa wb h1 h2 h3 h4 hy w
            · exact isound_rem num x y a b wa wb h1 h2 h3 h4 hy w
          by_cases n7 : op = 7
          · subst n7; exact isound_eq num x y a b wa wb h1 h2 h3 h4 w
          by_cases n8 : op = 8
          · subst n8; exact isound_lt num x y a b wa wb h1 h2 h3 h4 w
          by_cases n9 : op = 9
          · subst n9; exact isound_le num x y a b wa wb h1 h2 h3 h4 w
          exact isound_other op num x y a b wa wb h1 h2 h3 h4 (by omega) w
        · exact isound_out4 op num x y a b wa wb h1 h2 h3 (by omega) w
      · exact isound_out3 op num x y a b wa wb h1 h2 (by omega) w
    · exact isound_out2 op num x y a b wa wb h1 (by omega) w
  · exact isound_out1 op num x y a b wa wb (by omega) w
end Go.Proofs.Ytppidnjhdefbiaa
