/- Package ops: the document's table of rows. -/
import Derived.Test.YtppidnjhdefbiaaOpsPure
namespace Go.Proofs.Ytppidnjhdefbiaa
open Go.RowKit
set_option linter.unusedVariables false

set_option maxRecDepth 100000 in
set_option maxHeartbeats 8000000 in
theorem rows_any (w : World) : Calls Try.prog 40 #[] w fun e w' => e = .returned (.slice (some ⟨w.heap.size, 0, none⟩) 27 27) ∧ w' = w.alloc (.cells kcells 50) := by
  go_enter Try.func40, Try.ntmps40
  go_wp2
  go_ret
  exact ⟨rfl, rfl⟩

/-- the table's cells -/
theorem kcell (k : Nat) (hk : k < 27) : kcells[k * 3]? = some (.string (kword k)) ∧ kcells[k * 3 + 1]? = some (.string (ktakes k)) ∧ kcells[k * 3 + 2]? = some (.string (kmakes k)) :=
  match k, hk with
  | 0, _ => ⟨rfl, rfl, rfl⟩
  | 1, _ => ⟨rfl, rfl, rfl⟩
  | 2, _ => ⟨rfl, rfl, rfl⟩
  | 3, _ => ⟨rfl, rfl, rfl⟩
  | 4, _ => ⟨rfl, rfl, rfl⟩
  | 5, _ => ⟨rfl, rfl, rfl⟩
  | 6, _ => ⟨rfl, rfl, rfl⟩
  | 7, _ => ⟨rfl, rfl, rfl⟩
  | 8, _ => ⟨rfl, rfl, rfl⟩
  | 9, _ => ⟨rfl, rfl, rfl⟩
  | 10, _ => ⟨rfl, rfl, rfl⟩
  | 11, _ => ⟨rfl, rfl, rfl⟩
  | 12, _ => ⟨rfl, rfl, rfl⟩
  | 13, _ => ⟨rfl, rfl, rfl⟩
  | 14, _ => ⟨rfl, rfl, rfl⟩
  | 15, _ => ⟨rfl, rfl, rfl⟩
  | 16, _ => ⟨rfl, rfl, rfl⟩
  | 17, _ => ⟨rfl, rfl, rfl⟩
  | 18, _ => ⟨rfl, rfl, rfl⟩
  | 19, _ => ⟨rfl, rfl, rfl⟩
  | 20, _ => ⟨rfl, rfl, rfl⟩
  | 21, _ => ⟨rfl, rfl, rfl⟩
  | 22, _ => ⟨rfl, rfl, rfl⟩
  | 23, _ => ⟨rfl, rfl, rfl⟩
  | 24, _ => ⟨rfl, rfl, rfl⟩
  | 25, _ => ⟨rfl, rfl, rfl⟩
  | 26, _ => ⟨rfl, rfl, rfl⟩
  | n + 27, h => absurd h (by omega)
end Go.Proofs.Ytppidnjhdefbiaa
