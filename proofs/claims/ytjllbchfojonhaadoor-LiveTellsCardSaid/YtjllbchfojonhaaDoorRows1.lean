/- Rows opened at a place; laws on 'all' of a list, place by place; rows of the call's own. -/
import Derived.Test.YtjllbchfojonhaaDoorTypedTerm
import Derived.Test.YtjllbchfojonhaaDoorTypeWord
namespace Go.Proofs.YtjllbchfojonhaaDoor
open Go.RowKit
set_option linter.unusedVariables false

instance : Inhabited VarM := ⟨⟨⟨#[]⟩, 0⟩⟩
instance : Inhabited PhiM := ⟨⟨0, (.slice none 0 0, []), (.slice none 0 0, [])⟩⟩
instance : Inhabited InstM := ⟨⟨0, 0, (.slice none 0 0, []), 0⟩⟩
instance : Inhabited BlockM := ⟨⟨⟨#[]⟩, (.slice none 0 0, []), (.slice none 0 0, []), 0, 0, 0, 0⟩⟩

section
variable {α : Type} [Inhabited α]
theorem bang_mem {l : List α} {k : Nat} (h : k < l.length) : l[k]! ∈ l := by
  rw [getElem!_pos l k h]; exact List.getElem_mem h
theorem all_yes {l : List α} {p : α → Bool} (h : ∀ j, j < l.length → p l[j]! = true) : l.all p = true := by
  rw [List.all_eq_true]
  intro x hx
  obtain ⟨j, hj, rfl⟩ := List.mem_iff_getElem.1 hx
  have := h j hj
  rwa [getElem!_pos l j hj] at this
theorem all_no {l : List α} {p : α → Bool} {k : Nat} (hk : k < l.length) (h : p l[k]! = false) : l.all p = false := by
  rw [List.all_eq_false]
  exact ⟨_, bang_mem hk, by rw [h]; exact Bool.false_ne_true⟩
theorem all_at {l : List α} {p : α → Bool} (h : l.all p = true) {k : Nat} (hk : k < l.length) : p l[k]! = true :=
  List.all_eq_true.1 h _ (bang_mem hk)
end
def allR (n : Nat) (P : Nat → Bool) : Bool := (List.range n).all P
theorem allR_iff {n : Nat} {P : Nat → Bool} : allR n P = true ↔ ∀ j, j < n → P j = true := by simp [allR]
theorem allR_yes {n : Nat} {P : Nat → Bool} (h : ∀ j, j < n → P j = true) : allR n P = true := allR_iff.2 h
theorem allR_no {n k : Nat} {P : Nat → Bool} (hk : k < n) (h : P k = false) : allR n P = false := by
  cases e : allR n P with
  | false => rfl
  | true => rw [allR_iff.1 e k hk] at h; cases h
theorem allR_at {n k : Nat} {P : Nat → Bool} (h : allR n P = true) (hk : k < n) : P k = true := allR_iff.1 h k hk

/-- a row, opened -/
theorem Row.open_ {M : Type} [Inhabited M] {cells : M → List Value} {w : World} {size : Nat} {v : Value} {l : List M} (h : Row w size v (l.map cells)) :
    ∃ a cap, v = .slice a l.length cap ∧ l.length ≤ cap ∧ cap ≤ maxLen ∧ ∀ (k : Nat), k < l.length → ∃ b off, a = some ⟨b, off, none⟩ ∧ b < w.heap.size ∧ ∀ (i : Nat) x, (cells l[k]!)[i]? = some x → w.cell? ⟨b, off + k * size + i, none⟩ = some x := by
  obtain ⟨a, cap, h1, h2, h3, h4⟩ := h
  simp only [List.length_map] at h1 h2 h4
  refine ⟨a, cap, h1, h2, h3, fun k hk => ?_⟩
  rcases h4 with h4 | ⟨b, off, h5, h6, h7⟩
  · omega
  · refine ⟨b, off, h5, h6, fun i x hx => ?_⟩
    exact h7 k (cells l[k]!) (by rw [List.getElem?_map, List.getElem?_eq_getElem hk, getElem!_pos l k hk]; rfl) i x hx
/-- a row of the call's own, of one cell each -/
theorem row_of_own {w : World} {base n : Nat} {e : TypeId} {v : Value} {xs : List Value} (h : w.ownsRow base e 1 v n xs) : Row w 1 v (xs.map fun x => [x]) := by
  obtain ⟨h0, h1 | ⟨g, cap, cur, h2, h3, h4, h5, h6, h7, h8⟩⟩ := h
  · obtain ⟨rfl, rfl⟩ := h1
    have : xs = [] := List.length_eq_zero_iff.1 (by omega)
    subst this
    exact ⟨none, 0, rfl, by simp, by simp [maxLen], .inl rfl⟩
  · have hn : xs.length = n := by omega
    refine ⟨some ⟨g, 0, none⟩, cap, by rw [h2, List.length_map, hn], by rw [List.length_map]; omega, h6, .inr ⟨g, 0, rfl, Blk.lt h4, fun j e he i x hx => ?_⟩⟩
    rw [List.getElem?_map] at he
    obtain ⟨y, hy, rfl⟩ := Option.map_eq_some_iff.1 he
    obtain ⟨rfl, rfl⟩ : i = 0 ∧ y = x := by
      rcases i with _ | i
      · exact ⟨rfl, by simpa using hx⟩
      · simp at hx
    have := Blk.cell h4 j
    simp only [Nat.zero_add, Nat.mul_one, Nat.add_zero]
    rw [this, ← Array.getElem?_toList]
    rw [← h8, List.getElem?_take] at hy
    split at hy
    · exact hy
    · cases hy
end Go.Proofs.YtjllbchfojonhaaDoor
