/- Rows of nodes: how each is reached. -/
import Derived.Test.YtppidnjhdefbiaaFactsPop
namespace Go.Proofs.Ytppidnjhdefbiaa
open Go.RowKit
set_option linter.unusedVariables false

/-- cell j of a row of nodes: is it reached; the least sum -/
def nodeCell (X : Nat → Option Int) (j : Nat) : Value := if j % 2 = 0 then .bool (X (j / 2)).isSome else .int .i64 ((X (j / 2)).getD 0)
def nodeCells (X : Nat → Option Int) (n : Nat) : List Value := (List.range (n * 2)).map (nodeCell X)

theorem node_len (X : Nat → Option Int) (n : Nat) : (nodeCells X n).length = n * 2 := by simp [nodeCells]
theorem node_at (X : Nat → Option Int) {n j : Nat} (h : j < n * 2) : (nodeCells X n)[j]? = some (nodeCell X j) := by
  simp [nodeCells, h]
theorem node_ok (X : Nat → Option Int) {n u : Nat} (h : u < n) : (nodeCells X n)[u * 2]? = some (.bool (X u).isSome) := by
  rw [node_at X (by omega)]
  simp [nodeCell]
theorem node_sum (X : Nat → Option Int) {n u : Nat} (h : u < n) : (nodeCells X n)[u * 2 + 1]? = some (.int .i64 ((X u).getD 0)) := by
  rw [node_at X (by omega)]
  have h1 : (u * 2 + 1) % 2 = 1 := by omega
  have h2 : (u * 2 + 1) / 2 = u := by omega
  simp [nodeCell, h1, h2]
theorem node_congr {X Y : Nat → Option Int} {n : Nat} (h : ∀ u, u < n → X u = Y u) : nodeCells X n = nodeCells Y n := by
  unfold nodeCells
  refine List.map_congr_left fun j hj => ?_
  have : j < n * 2 := by simpa using hj
  unfold nodeCell
  rw [h (j / 2) (by omega)]
theorem node_set (X : Nat → Option Int) (n u : Nat) (s : Int) (h : u < n) :
    ((nodeCells X n).set (u * 2) (.bool true)).set (u * 2 + 1) (.int .i64 s) = nodeCells (fun v => if v = u then some s else X v) n := by
  apply List.ext_getElem?
  intro j
  by_cases hj : j < n * 2
  · rw [node_at _ hj]
    rw [List.getElem?_set, List.getElem?_set, node_at _ hj]
    simp only [List.length_set, node_len]
    by_cases h1 : u * 2 + 1 = j
    · subst h1
      have h1 : (u * 2 + 1) % 2 = 1 := by omega
      have h2 : (u * 2 + 1) / 2 = u := by omega
      simp [nodeCell, h1, h2, hj]
    · by_cases h2 : u * 2 = j
      · subst h2
        simp [nodeCell, hj]
      · have h3 : ¬ j / 2 = u := by omega
        simp [nodeCell, h1, h2, h3]
  · rw [List.getElem?_eq_none (by simp [node_len]; omega), List.getElem?_eq_none (by simp [node_len]; omega)]

theorem fct_at (L : List Chain.Fct) : ∀ (k j : Nat) (f : Chain.Fct), L[k]? = some f → j < 3 → (L.flatMap fctCells)[k * 3 + j]? = (fctCells f)[j]? := by
  induction L with
  | nil => intro k j f h; simp at h
  | cons g L ih =>
    intro k j f h hj
    rw [List.flatMap_cons]
    cases k with
    | zero =>
      simp at h
      subst h
      rw [List.getElem?_append_left (by simp [fctCells]; omega)]
      simp
    | succ k =>
      rw [List.getElem?_append_right (by simp [fctCells]; omega)]
      rw [← ih k j f (by simpa using h) hj]
      congr 1
      simp [fctCells]
      omega
end Go.Proofs.Ytppidnjhdefbiaa
