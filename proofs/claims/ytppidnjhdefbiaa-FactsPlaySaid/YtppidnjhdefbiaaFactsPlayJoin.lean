/- The walk of the law FactsPlay, its ways joined. -/
import Derived.Test.YtppidnjhdefbiaaFactsPlayWalk
namespace Go.Proofs.Ytppidnjhdefbiaa
open Go.RowKit
set_option linter.unusedVariables false

theorem walkFactsPlay (n : Int) (al : Option Addr) (ll cl : Nat) (z0 z1 z2 z3 : Nat → Int) (hl1 : ll ≤ cl) (hl2 : cl ≤ maxLen) {w : World} (hs : Sees4 w al ll z0 z1 z2 z3) (w' : World) (hw : w' = w) :
    Calls Try.prog 11 #[.int .i64 n, .slice al ll cl] w' fun e w1 => e = .returned (.bool true) ∧ Below w'.heap.size w' w1 := by
  subst hw
  unfold maxLen at hl2
  by_cases h : 80 < ll ∨ (40 < n ∧ n ≤ 1024)
  · exact play_early n al ll cl (by omega) w' h
  · by_cases h1 : n < 0 ∨ 1024 < n
    · exact play_nil n al ll cl (by omega) w' h1
    · obtain ⟨N, rfl⟩ : ∃ N : Nat, n = N := ⟨n.toNat, by omega⟩
      exact play_main N al ll cl z0 z1 z2 z3 (by omega) (by omega) w' hs
end Go.Proofs.Ytppidnjhdefbiaa
