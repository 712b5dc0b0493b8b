/- The walk of the law FactsSound, its ways joined. -/
import Derived.Test.YtbaajnkgnemeiaaFactsSoundWalk
namespace Go.Proofs.Ytbaajnkgnemeiaa
open Go.RowKit
set_option linter.unusedVariables false

theorem walkFactsSound (al : Option Addr) (ll cl : Nat) (av : Option Addr) (n cv : Nat) (a b : Int) (z0 z1 z2 zv : Nat → Int) (hl1 : ll ≤ cl) (hl2 : cl ≤ maxLen) (hn1 : n ≤ cv) (hn2 : cv ≤ maxLen) {w : World}
    (hsl : Sees3 w al ll z0 z1 z2) (hsv : Sees1 w av n zv) (hz : ∀ i, i < ll → (Lit.int .i64 (z0 i)).wf = true ∧ (Lit.int .i64 (z1 i)).wf = true ∧ (Lit.int .i64 (z2 i)).wf = true) (w' : World) (hw : w' = w) :
    Calls Try.prog 6 #[.slice al ll cl, .slice av n cv, .int .i64 a, .int .i64 b] w' fun e w1 => e = .returned (.bool true) ∧ Below w'.heap.size w' w1 := by
  subst hw
  unfold maxLen at hl2 hn2
  by_cases h : 20 < n ∨ 60 < ll ∨ a < 0 ∨ (n : Int) ≤ a ∨ b < 0 ∨ (n : Int) ≤ b
  · exact sound_early al ll cl av n cv a b (by omega) (by omega) w' h
  · obtain ⟨A, rfl⟩ : ∃ A : Nat, a = A := ⟨a.toNat, by omega⟩
    obtain ⟨C, rfl⟩ : ∃ C : Nat, b = C := ⟨b.toNat, by omega⟩
    exact sound_main al ll cl av n cv A C z0 z1 z2 zv (by omega) (by omega) (by omega) (by omega) w' hsl hsv (fun i hi => ⟨inI_wf (hz i hi).1, inI_wf (hz i hi).2.1, inI_wf (hz i hi).2.2⟩)
end Go.Proofs.Ytbaajnkgnemeiaa
