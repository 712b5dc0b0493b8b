/- Plain: numbers, as digits. -/
import Derived.Lib.ParseIntB
import Derived.Lib.ParseIntBCases
import Derived.Lib.ItoaMem
namespace Go.Proofs.YtjllbchfojonhaaDoor
open Go.Lib

/-- the number that digits tell, behind one -/
def step10 (a : Nat) (c : UInt8) : Nat := a * 10 + (c.toNat - 48)
def val (a : Nat) (l : List UInt8) : Nat := l.foldl step10 a
theorem val_nil (a : Nat) : val a [] = a := by simp only [val, List.foldl_nil]
theorem val_cons (a : Nat) (c : UInt8) (l : List UInt8) : val a (c :: l) = val (a * 10 + (c.toNat - 48)) l := by simp only [val, List.foldl_cons, step10]
def isDig (c : UInt8) : Bool := decide (48 ≤ c.toNat) && decide (c.toNat ≤ 57)
def digs (l : List UInt8) : Bool := l.all isDig
theorem val_snoc (l : List UInt8) (c : UInt8) (a : Nat) : val a (l ++ [c]) = val a l * 10 + (c.toNat - 48) := by
  simp only [val, List.foldl_append, List.foldl_cons, List.foldl_nil, step10]
theorem isDig_iff {c : UInt8} : isDig c = true ↔ 48 ≤ c.toNat ∧ c.toNat ≤ 57 := by simp [isDig]
theorem digs_cons {c : UInt8} {l : List UInt8} : digs (c :: l) = true ↔ (48 ≤ c.toNat ∧ c.toNat ≤ 57) ∧ digs l = true := by
  simp [digs, isDig_iff]
theorem digs_snoc {c : UInt8} {l : List UInt8} : digs (l ++ [c]) = true ↔ digs l = true ∧ (48 ≤ c.toNat ∧ c.toNat ≤ 57) := by
  simp [digs, isDig_iff]
def p10 : Nat → Nat
  | 0 => 1
  | n + 1 => 10 * p10 n
theorem p10_succ (n : Nat) : p10 (n + 1) = 10 * p10 n := rfl
theorem val_lt (l : List UInt8) : ∀ a : Nat, digs l = true → val a l + 1 ≤ (a + 1) * p10 l.length := by
  induction l with
  | nil => intro a _; rw [val_nil]; show a + 1 ≤ (a + 1) * 1; omega
  | cons c l ih =>
    intro a hd
    obtain ⟨hc, hl⟩ := digs_cons.1 hd
    have h1 := ih (a * 10 + (c.toNat - 48)) hl
    rw [val_cons, List.length_cons, p10_succ]
    have h2 : (a * 10 + (c.toNat - 48) + 1) * p10 l.length ≤ (a + 1) * (10 * p10 l.length) := by
      rw [← Nat.mul_assoc]
      exact Nat.mul_le_mul_right _ (by omega)
    omega
theorem p10_mono {m n : Nat} (h : m ≤ n) : p10 m ≤ p10 n := by
  induction h with
  | refl => exact Nat.le_refl _
  | @step k _ ih => rw [p10_succ]; omega
theorem val_18 {l : List UInt8} (hd : digs l = true) (hl : l.length ≤ 18) : val 0 l < 1000000000000000000 := by
  have h1 := val_lt l 0 hd
  have h2 := p10_mono hl
  have h3 : p10 18 = 1000000000000000000 := by decide
  omega
theorem val_19 {l : List UInt8} (hd : digs l = true) (hl : l.length ≤ 19) : val 0 l < 10000000000000000000 := by
  have h1 := val_lt l 0 hd
  have h2 := p10_mono hl
  have h3 : p10 19 = 10000000000000000000 := by decide
  omega
theorem head_app {p q : List UInt8} (h : p ≠ []) : (p ++ q).head? = p.head? := by
  cases p with
  | nil => exact absurd rfl h
  | cons a p => rfl
theorem pow18 {k : Nat} (h : k ≤ 18) : 10 ^ k ≤ 1000000000000000000 := Nat.le_trans (Nat.pow_le_pow_right (by decide) h) (by decide)
theorem dec_small {u : Nat} (h : u < 10) : decDigits u = [UInt8.ofNat (48 + u)] := decDigits_one h
theorem dec_big {u : Nat} (h : ¬ u < 10) : decDigits u = decDigits (u / 10) ++ [UInt8.ofNat (48 + u % 10)] := by
  rw [decDigits, dif_neg h]
theorem ofNat_dig {k : Nat} (h : k < 10) : (UInt8.ofNat (48 + k)).toNat = 48 + k := by
  simp
  omega
theorem dec_digs (u : Nat) : digs (decDigits u) = true := by
  induction u using Nat.strongRecOn with
  | _ u ih =>
    by_cases h : u < 10
    · rw [dec_small h]
      exact digs_cons.2 ⟨by rw [ofNat_dig h]; omega, rfl⟩
    · rw [dec_big h]
      exact digs_snoc.2 ⟨ih _ (by omega), by rw [ofNat_dig (by omega)]; omega⟩
theorem val_dec (u : Nat) : val 0 (decDigits u) = u := by
  induction u using Nat.strongRecOn with
  | _ u ih =>
    by_cases h : u < 10
    · rw [dec_small h]
      rw [val_cons, val_nil, ofNat_dig h]
      omega
    · rw [dec_big h, val_snoc, ih _ (by omega), ofNat_dig (by omega)]
      omega
theorem dec_ne (u : Nat) : decDigits u ≠ [] := by
  by_cases h : u < 10
  · rw [dec_small h]; simp
  · rw [dec_big h]; simp
theorem dec_head (u : Nat) (h1 : 1 ≤ u) : (decDigits u).head? ≠ some 48 := by
  induction u using Nat.strongRecOn with
  | _ u ih =>
    by_cases h : u < 10
    · rw [dec_small h]
      intro e
      have e2 : UInt8.ofNat (48 + u) = 48 := by simpa using e
      have := congrArg UInt8.toNat e2
      rw [ofNat_dig h] at this
      have : (48 : UInt8).toNat = 48 := rfl
      omega
    · rw [dec_big h, head_app (dec_ne _)]
      exact ih _ (by omega) (by omega)
theorem dec_len (k : Nat) : ∀ u, u < 10 ^ (k + 1) → (decDigits u).length ≤ k + 1 := by
  induction k with
  | zero => intro u h; rw [dec_small (by simpa using h)]; simp
  | succ k ih =>
    intro u h
    by_cases h1 : u < 10
    · rw [dec_small h1]; simp
    · rw [dec_big h1]
      have := ih (u / 10) (by rw [Nat.pow_succ] at h; omega)
      simp
      omega
end Go.Proofs.YtjllbchfojonhaaDoor
