/- The chapter's example; contract. -/
import Derived.Test.YtjllbchfojonhaaDoorFew
namespace Go.Proofs.YtjllbchfojonhaaDoor
open Go.RowKit
set_option linter.unusedVariables false
set_option linter.unusedSimpArgs false

theorem row_single {w : World} {g : Nat} {t : TypeId} {size : Nat} {cs : List Value} (h : Blk w g t cs.toArray) : Row w size (.slice (some ⟨g, 0, none⟩) 1 1) [cs] := by
 refine ⟨_, 1, rfl, Nat.le_refl _, by simp [maxLen], .inr ⟨g, 0, rfl, h.lt, fun j e he i x hx => ?_⟩⟩
 have hj : j = 0 ∧ cs = e := by
  rcases j with _ | j
  ·exact ⟨rfl, by simpa using he⟩
  ·simp at he
 obtain ⟨rfl, rfl⟩ := hj
 simp only [Nat.zero_mul, Nat.zero_add]
 rw [h.cell i]
 simpa using hx
theorem row_none {w : World} {size : Nat} : Row w size (.slice none 0 0) [] := ⟨none, 0, rfl, Nat.le_refl _, by simp [maxLen], .inl rfl⟩
end Go.Proofs.YtjllbchfojonhaaDoor
