/- Two arrays of two numbers held against each other. -/
import Derived.Test.YtjllbchfojonhaaDoorPhi
import Derived.ChangeKeysEq
import Derived.Laws.StructEq
namespace Go.Proofs.YtjllbchfojonhaaDoor
open Go.RowKit Go.Shelf
theorem two_eql (a b c d : Int) (w : World) : (Op.equalIn 10000 35 (.agg #[.int .i64 a, .int .i64 b]) (.agg #[.int .i64 c, .int .i64 d])).run Tryd.prog w = .ok ((a == c) && (b == d)) w := by
  obtain ⟨i, hi⟩ : ∃ i, Tryd.prog.info? 3 = some i := Option.isSome_iff_exists.1 (by kernel_rfl)
  rw [show 10000 = 9999 + 1 from rfl, run_equalIn_array (P := Tryd.prog) (w := w) 9999 #[.int .i64 a, .int .i64 b] #[.int .i64 c, .int .i64 d] Tryd.underlying35 hi]
  rw [show Tryd.prog.cellsOf 3 = 1 by kernel_rfl, show List.range 2 = [0, 1] from rfl]
  by_cases h : a = c <;> by_cases h2 : b = d <;> simp [Op.eqItems, go_sem, h, h2, run_equalIn_int _ _ _ _ _ _ _ Tryd.underlying3]
end Go.Proofs.YtjllbchfojonhaaDoor
