/- The document's answer for layer 25 (facts): rows of sums and of truths; the contract of Least. -/
import Derived.Test.YtppidnjhdefbiaaFactsSoundWalk
namespace Go.Proofs.Ytppidnjhdefbiaa
open Go.RowKit
set_option linter.unusedVariables false

def sumCells (X : Nat → Option Int) (n : Nat) : List Value := (List.range n).map fun u => .int .i64 ((X u).getD 0)
def okCells (X : Nat → Option Int) (n : Nat) : List Value := (List.range n).map fun u => .bool (X u).isSome
theorem sum_at (X : Nat → Option Int) {n u : Nat} (h : u < n) : (sumCells X n)[u]? = some (.int .i64 ((X u).getD 0)) := by simp [sumCells, h]
theorem ok_at (X : Nat → Option Int) {n u : Nat} (h : u < n) : (okCells X n)[u]? = some (.bool (X u).isSome) := by simp [okCells, h]
theorem sum_len (X : Nat → Option Int) (n : Nat) : (sumCells X n).length = n := by simp [sumCells]
theorem ok_len (X : Nat → Option Int) (n : Nat) : (okCells X n).length = n := by simp [okCells]
theorem sum_set (X : Nat → Option Int) (n u : Nat) (s : Int) (h : u < n) : (sumCells X n).set u (.int .i64 s) = sumCells (fun v => if v = u then some s else X v) n := by
  apply List.ext_getElem?
  intro j
  by_cases hj : j < n
  · rw [sum_at _ hj, List.getElem?_set, sum_at _ hj, sum_len]
    by_cases h1 : u = j
    · subst h1; simp [hj]
    · have : ¬ j = u := fun e => h1 e.symm
      simp [h1, this]
  · rw [List.getElem?_eq_none (by simp [sum_len]; omega), List.getElem?_eq_none (by simp [sum_len]; omega)]
theorem ok_set (X : Nat → Option Int) (n u : Nat) (s : Int) (h : u < n) : (okCells X n).set u (.bool true) = okCells (fun v => if v = u then some s else X v) n := by
  apply List.ext_getElem?
  intro j
  by_cases hj : j < n
  · rw [ok_at _ hj, List.getElem?_set, ok_at _ hj, ok_len]
    by_cases h1 : u = j
    · subst h1; simp [hj]
    · have : ¬ j = u := fun e => h1 e.symm
      simp [h1, this]
  · rw [List.getElem?_eq_none (by simp [ok_len]; omega), List.getElem?_eq_none (by simp [ok_len]; omega)]
theorem sum_congr {X Y : Nat → Option Int} {n : Nat} (h : ∀ u, u < n → (X u).getD 0 = (Y u).getD 0) : sumCells X n = sumCells Y n := by
  unfold sumCells
  refine List.map_congr_left fun u hu => ?_
  rw [h u (by simpa using hu)]

theorem made_sums (n : Nat) : (madeCells #[.int .i64 0] n).toList = sumCells (fun _ => none) n := by
  apply List.ext_getElem?
  intro j
  by_cases hj : j < n
  · rw [sum_at _ hj]; simp [madeCells, hj, Nat.mod_one]
  · rw [List.getElem?_eq_none (by simp [size_madeCells]; omega), List.getElem?_eq_none (by simp [sum_len]; omega)]
theorem made_oks (n : Nat) : (madeCells #[.bool false] n).toList = okCells (fun _ => none) n := by
  apply List.ext_getElem?
  intro j
  by_cases hj : j < n
  · rw [ok_at _ hj]; simp [madeCells, hj, Nat.mod_one]
  · rw [List.getElem?_eq_none (by simp [size_madeCells]; omega), List.getElem?_eq_none (by simp [ok_len]; omega)]

theorem info2 : (Try.prog.info? 2).map (fun i => (i.zero, i.size, i.bytes)) = some (some (.int .i64 0), 1, 8) := by kernel_rfl
theorem info4 : (Try.prog.info? 4).map (fun i => (i.zero, i.size, i.bytes)) = some (some (.bool false), 1, 1) := by kernel_rfl

/-- the two rows at once -/
def Pair (wr : World) (B n gs cs go co : Nat) (X : Nat → Option Int) : Prop :=
  wr.ownsRow B 2 1 (.slice (some ⟨gs, 0, none⟩) n cs) n (sumCells X n) ∧ wr.ownsRow B 4 1 (.slice (some ⟨go, 0, none⟩) n co) n (okCells X n)

theorem pair_keep {w w' : World} {B n gs cs go co : Nat} {X : Nat → Option Int} (h : Pair w B n gs cs go co X) (k : Keeps w w' []) : Pair w' B n gs cs go co X :=
  ⟨own_keep h.1 k (by simp), own_keep h.2 k (by simp)⟩

theorem pair_ne {w : World} {B n gs cs go co : Nat} {X : Nat → Option Int} (h : Pair w B n gs cs go co X) : gs ≠ go := by
  rintro rfl
  exact own_apart h.1 h.2 (by decide) (k := gs) rfl rfl

theorem pair_set {w : World} {B n gs cs go co : Nat} {X : Nat → Option Int} (h : Pair w B n gs cs go co X) (u : Nat) (s : Int) (hu : u < n) :
    Pair ((w.setCell ⟨gs, u, none⟩ (.int .i64 s)).setCell ⟨go, u, none⟩ (.bool true)) B n gs cs go co (fun v => if v = u then some s else X v) := by
  have hne := pair_ne h
  have k1 : Keeps w (w.setCell ⟨gs, u, none⟩ (.int .i64 s)) [gs] := (Keeps.refl w _).setCell (.inl (by simp)) _
  have k2 : Keeps (w.setCell ⟨gs, u, none⟩ (.int .i64 s)) ((w.setCell ⟨gs, u, none⟩ (.int .i64 s)).setCell ⟨go, u, none⟩ (.bool true)) [go] := (Keeps.refl _ _).setCell (.inl (by simp)) _
  constructor
  · have h1 := (h.1.stored u (.int .i64 s)).1
    rw [sum_set X n u s hu] at h1
    exact own_keep h1 k2 (fun k hk hm => by simp [Value.ownBlock] at hk hm; omega)
  · have h2 := own_keep h.2 k1 (fun k hk hm => by simp [Value.ownBlock] at hk hm; omega)
    have h3 := (h2.stored u (.bool true)).1
    rw [ok_set X n u s hu] at h3
    exact h3
end Go.Proofs.Ytppidnjhdefbiaa
