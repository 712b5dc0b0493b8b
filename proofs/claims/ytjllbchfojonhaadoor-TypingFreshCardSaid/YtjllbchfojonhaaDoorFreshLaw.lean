/- The plain law of fresh names: how many numbers are passed. -/
import Derived.Test.YtjllbchfojonhaaDoorMem
namespace Go.Proofs.YtjllbchfojonhaaDoor
set_option linter.unusedVariables false

def cnt (p : Nat → Bool) : Nat → Nat
  | 0 => 0
  | k + 1 => cnt p k + if p k = true then 1 else 0
theorem cnt_or (p q : Nat → Bool) (k : Nat) : cnt (fun j => p j || q j) k ≤ cnt p k + cnt q k := by
  induction k with
  | zero => simp [cnt]
  | succ k ih =>
    unfold cnt
    cases p k <;> cases q k <;> simp <;> omega
theorem cnt_zero (p : Nat → Bool) (k : Nat) (h : ∀ j, j < k → p j = false) : cnt p k = 0 := by
  induction k with
  | zero => rfl
  | succ k ih =>
    unfold cnt
    rw [ih (fun j hj => h j (by omega)), h k (by omega)]
    rfl
theorem cnt_one (p : Nat → Bool) (k : Nat) (h : ∀ i j, p i = true → p j = true → i = j) : cnt p k ≤ 1 := by
  induction k with
  | zero => simp [cnt]
  | succ k ih =>
    unfold cnt
    cases hp : p k with
    | false => simpa using ih
    | true =>
      rw [cnt_zero p k (fun j hj => by
        cases hq : p j with
        | false => rfl
        | true => have := h j k hq hp; omega)]
      simp
def hitB (tk : List ByteArray) (s : ByteArray) : Bool := tk.any fun t => decide (t = s)
theorem cnt_hits (nm : Nat → ByteArray) (hn : ∀ i j, nm i = nm j → i = j) (tk : List ByteArray) (k : Nat) : cnt (fun j => hitB tk (nm j)) k ≤ tk.length := by
  induction tk with
  | nil =>
    rw [cnt_zero (fun j => hitB [] (nm j)) k (fun j _ => rfl)]
    exact Nat.zero_le _
  | cons t tk ih =>
    have h1 := cnt_or (fun j => decide (t = nm j)) (fun j => hitB tk (nm j)) k
    have h2 := cnt_one (fun j => decide (t = nm j)) k (fun i j hi hj => hn i j ((of_decide_eq_true hi).symm.trans (of_decide_eq_true hj)))
    have h3 : (fun j => hitB (t :: tk) (nm j)) = fun j => decide (t = nm j) || hitB tk (nm j) := by
      funext j; rfl
    rw [h3, List.length_cons]
    omega
/-- the names up to k that aren't taken -/
def freshTo (nm : Nat → ByteArray) (tk : List ByteArray) : Nat → List ByteArray
  | 0 => []
  | k + 1 => freshTo nm tk k ++ (if hitB tk (nm k) = true then [] else [nm k])
theorem freshTo_len (nm : Nat → ByteArray) (tk : List ByteArray) (k : Nat) : (freshTo nm tk k).length + cnt (fun j => hitB tk (nm j)) k = k := by
  induction k with
  | zero => rfl
  | succ k ih =>
    unfold freshTo cnt
    rw [List.length_append]
    cases h : hitB tk (nm k) <;> simp <;> omega
theorem freshTo_low (nm : Nat → ByteArray) (hn : ∀ i j, nm i = nm j → i = j) (tk : List ByteArray) (k : Nat) : k ≤ (freshTo nm tk k).length + tk.length := by
  have h1 := freshTo_len nm tk k
  have h2 := cnt_hits nm hn tk k
  omega
theorem freshTo_prefix (nm : Nat → ByteArray) (tk : List ByteArray) (k d : Nat) : ∃ r, freshTo nm tk (k + d) = freshTo nm tk k ++ r := by
  induction d with
  | zero => exact ⟨[], by simp⟩
  | succ d ih =>
    obtain ⟨r, hr⟩ := ih
    refine ⟨r ++ (if hitB tk (nm (k + d)) = true then [] else [nm (k + d)]), ?_⟩
    rw [← List.append_assoc, ← hr]
    rfl
theorem freshTo_at (nm : Nat → ByteArray) (tk : List ByteArray) (k K : Nat) (hk : k < K) (h : hitB tk (nm k) = false) : (freshTo nm tk K)[(freshTo nm tk k).length]? = some (nm k) := by
  obtain ⟨r, hr⟩ := freshTo_prefix nm tk (k + 1) (K - (k + 1))
  rw [show k + 1 + (K - (k + 1)) = K by omega] at hr
  have e : freshTo nm tk (k + 1) = freshTo nm tk k ++ [nm k] := by
    show freshTo nm tk k ++ (if hitB tk (nm k) = true then [] else [nm k]) = _
    rw [h]; rfl
  rw [hr, e]
  simp
end Go.Proofs.YtjllbchfojonhaaDoor
