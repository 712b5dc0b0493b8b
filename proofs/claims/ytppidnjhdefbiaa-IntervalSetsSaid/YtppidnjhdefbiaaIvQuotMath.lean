/- Package interval: the contracts of quotients. -/
import Derived.Test.YtppidnjhdefbiaaIvCut
import Derived.Test.YtppidnjhdefbiaaArithWalks
import Derived.Deep.RegionHeld3
namespace Go.Proofs.Ytppidnjhdefbiaa
open Go.RowKit
set_option linter.unusedVariables false

/-- what is added of two numbers -/
def qv (x y : Int) : Int := if x = Iv.MIN ∧ y = -1 then Iv.MAX else x.tdiv y
def qf (x y : Int) : Bool := !(decide (x = Iv.MIN) && decide (y = -1))
/-- the hull after m corners of a part, and whether one didn't fit -/
def qr (r : Iv.R) (a p : Iv.R) : Nat → Iv.R
  | 0 => r
  | m + 1 => Iv.addn (qr r a p m) (qv (endOf a (m / 2)) (endOf p (m % 2)))
def qw (wd : Bool) (a p : Iv.R) : Nat → Bool
  | 0 => wd
  | m + 1 => qw wd a p m || !qf (endOf a (m / 2)) (endOf p (m % 2))
def partOf (b : Iv.R) (k : Nat) : Iv.R := if k = 0 then Iv.negs b else Iv.poss b
/-- the hull after k parts -/
def qR (a b : Iv.R) : Nat → Iv.R
  | 0 => Iv.none
  | k + 1 => if (partOf b k).hi < (partOf b k).lo then qR a b k else qr (qR a b k) a (partOf b k) 4
def qW (a b : Iv.R) : Nat → Bool
  | 0 => false
  | k + 1 => if (partOf b k).hi < (partOf b k).lo then qW a b k else qw (qW a b k) a (partOf b k) 4

theorem qr_step (r : Iv.R) (a p : Iv.R) {k j : Nat} (hk : k < 2) (hj : j < 2) : Iv.addn (qr r a p (2 * k + j)) (qv (endOf a k) (endOf p j)) = qr r a p (2 * k + j + 1) := by
  have h1 : (2 * k + j) / 2 = k := by omega
  have h2 : (2 * k + j) % 2 = j := by omega
  show _ = Iv.addn _ (qv (endOf a ((2 * k + j) / 2)) (endOf p ((2 * k + j) % 2)))
  rw [h1, h2]
theorem qw_step (wd : Bool) (a p : Iv.R) {k j : Nat} (hk : k < 2) (hj : j < 2) : (qw wd a p (2 * k + j) || !qf (endOf a k) (endOf p j)) = qw wd a p (2 * k + j + 1) := by
  have h1 : (2 * k + j) / 2 = k := by omega
  have h2 : (2 * k + j) % 2 = j := by omega
  show _ = (_ || !qf (endOf a ((2 * k + j) / 2)) (endOf p ((2 * k + j) % 2)))
  rw [h1, h2]

theorem qf_iff {x y : Int} : qf x y = true ↔ ¬ (x = Iv.MIN ∧ y = -1) := by
  unfold qf
  by_cases h1 : x = Iv.MIN <;> by_cases h2 : y = -1 <;> simp [h1, h2]
theorem qv_fit {x y : Int} (h : qf x y = true) : qv x y = x.tdiv y := by
  rw [qf_iff] at h
  unfold qv
  rw [if_neg h]
/-- where all fit, it is the quotients' hull -/
theorem qr4 {wd : Bool} {r a p : Iv.R} (h : qw wd a p 4 = false) : wd = false ∧ qr r a p 4 = Iv.add4 r Int.tdiv a p := by
  have e : qw wd a p 4 = ((((wd || !qf a.lo p.lo) || !qf a.lo p.hi) || !qf a.hi p.lo) || !qf a.hi p.hi) := rfl
  rw [e] at h
  simp only [Bool.or_eq_false_iff, Bool.not_eq_false'] at h
  obtain ⟨⟨⟨⟨h0, h1⟩, h2⟩, h3⟩, h4⟩ := h
  refine ⟨h0, ?_⟩
  have e : qr r a p 4 = Iv.addn (Iv.addn (Iv.addn (Iv.addn r (qv a.lo p.lo)) (qv a.lo p.hi)) (qv a.hi p.lo)) (qv a.hi p.hi) := rfl
  rw [e, qv_fit h1, qv_fit h2, qv_fit h3, qv_fit h4]
  rfl
theorem qR2 {a b : Iv.R} (h : qW a b 2 = false) : qR a b 2 = Iv.quot0 a b := by
  have h2 : qW a b 1 = false ∧ qR a b 2 = Iv.qpart (qR a b 1) a (Iv.poss b) := by
    have e : qW a b 2 = if (Iv.poss b).hi < (Iv.poss b).lo then qW a b 1 else qw (qW a b 1) a (Iv.poss b) 4 := rfl
    have e' : qR a b 2 = if (Iv.poss b).hi < (Iv.poss b).lo then qR a b 1 else qr (qR a b 1) a (Iv.poss b) 4 := rfl
    unfold Iv.qpart
    rw [e'] 
    rw [e] at h
    split at h
    · rename_i hc; rw [if_pos hc, if_pos hc]; exact ⟨h, rfl⟩
    · rename_i hc; rw [if_neg hc, if_neg hc]; exact qr4 h
  have h1 : qR a b 1 = Iv.qpart Iv.none a (Iv.negs b) := by
    have e : qW a b 1 = if (Iv.negs b).hi < (Iv.negs b).lo then false else qw false a (Iv.negs b) 4 := rfl
    have e' : qR a b 1 = if (Iv.negs b).hi < (Iv.negs b).lo then Iv.none else qr Iv.none a (Iv.negs b) 4 := rfl
    have h0 := h2.1
    unfold Iv.qpart
    rw [e']
    rw [e] at h0
    split at h0
    · rename_i hc; rw [if_pos hc, if_pos hc]
    · rename_i hc; rw [if_neg hc, if_neg hc]; exact (qr4 h0).2
  rw [h2.2, h1]
  rfl
theorem qw_false4 {a p : Iv.R} {wd : Bool} (h : ∀ x y, (x = a.lo ∨ x = a.hi) → (y = p.lo ∨ y = p.hi) → qf x y = true) : qw wd a p 4 = wd := by
  have e : qw wd a p 4 = ((((wd || !qf a.lo p.lo) || !qf a.lo p.hi) || !qf a.hi p.lo) || !qf a.hi p.hi) := rfl
  rw [e, h _ _ (.inl rfl) (.inl rfl), h _ _ (.inl rfl) (.inr rfl), h _ _ (.inr rfl) (.inl rfl), h _ _ (.inr rfl) (.inr rfl)]
  simp
theorem qW2 {a b : Iv.R} (wa : Iv.Wf a) (wb : Iv.Wf b) (ha : a.lo ≤ a.hi) : qW a b 2 = Iv.quotW a b := by
  obtain ⟨⟨a1, a2⟩, a3, a4⟩ := wa
  obtain ⟨⟨b1, b2⟩, b3, b4⟩ := wb
  have hn := Iv.made_cases (max b.lo Iv.MIN) (min b.hi (-1))
  have hp := Iv.made_cases (max b.lo 1) (min b.hi Iv.MAX)
  have en : Iv.negs b = Iv.made (max b.lo Iv.MIN) (min b.hi (-1)) := rfl
  have ep : Iv.poss b = Iv.made (max b.lo 1) (min b.hi Iv.MAX) := rfl
  have h2 : qW a b 2 = qW a b 1 := by
    have e : qW a b 2 = if (Iv.poss b).hi < (Iv.poss b).lo then qW a b 1 else qw (qW a b 1) a (Iv.poss b) 4 := rfl
    rw [e]
    split
    · rfl
    · rename_i hc
      refine qw_false4 fun x y _ hy => ?_
      rw [qf_iff]
      rw [ep] at hc hy
      rcases hp with ⟨_, e⟩ | ⟨_, e⟩ <;> rw [e] at hc hy
      · exact absurd (by decide) hc
      · simp only at hy; omega
  rw [h2]
  have e : qW a b 1 = if (Iv.negs b).hi < (Iv.negs b).lo then false else qw false a (Iv.negs b) 4 := rfl
  rw [e, Bool.eq_iff_iff]
  have er : Iv.quotW a b = true ↔ a.lo = Iv.MIN ∧ b.lo ≤ -1 ∧ -1 ≤ b.hi := by simp [Iv.quotW, and_assoc]
  rw [er]
  unfold Iv.MIN Iv.MAX at *
  split
  · rename_i hc
    rw [en] at hc
    rcases hn with ⟨h, e⟩ | ⟨h, e⟩ <;> rw [e] at hc
    · simp; omega
    · simp only at hc; omega
  · rename_i hc
    rw [en] at hc ⊢
    rcases hn with ⟨h, e⟩ | ⟨h, e⟩ <;> rw [e] at hc ⊢
    · exact absurd (by decide) hc
    · have e4 : qw false a ⟨max b.lo (-9223372036854775808), min b.hi (-1)⟩ 4 = ((((false || !qf a.lo (max b.lo (-9223372036854775808))) || !qf a.lo (min b.hi (-1))) || !qf a.hi (max b.lo (-9223372036854775808))) || !qf a.hi (min b.hi (-1))) := rfl
      rw [e4]
      simp only at hc
      have er : ∀ u v : Int, (!qf u v) = true ↔ u = -9223372036854775808 ∧ v = -1 := fun u v => by
        rw [Bool.not_eq_true', ← Bool.not_eq_true, qf_iff, Classical.not_not]; rfl
      simp only [Bool.false_or, Bool.or_eq_true, er]
      constructor
      · rintro (((h1 | h1) | h1) | h1) <;> omega
      · rintro ⟨h1, h2, h3⟩; left; left; right; omega
theorem quot_of {a b : Iv.R} (wa : Iv.Wf a) (wb : Iv.Wf b) (ha : a.lo ≤ a.hi) : Iv.quot a b = if qW a b 2 = true then Iv.all else qR a b 2 := by
  unfold Iv.quot
  rw [← qW2 wa wb ha]
  split
  · rfl
  · rename_i h
    exact (qR2 (by simpa using h)).symm
theorem qv_in {x y : Int} (hx : inI x = true) (hy : ¬ y = 0) (hf : qf x y = true) : wrap64 (x.tdiv y) = x.tdiv y := by
  rw [qf_iff] at hf
  rw [inI_iff] at hx
  apply wrap64_id
  rw [inI_iff]
  have hn : (x.tdiv y).natAbs = x.natAbs / y.natAbs := Int.natAbs_tdiv x y
  have hl : x.natAbs / y.natAbs ≤ x.natAbs := Nat.div_le_self _ _
  unfold Iv.MIN at hf
  by_cases hm : x = -9223372036854775808
  · by_cases hy1 : y = 1
    · subst hy1
      rw [Int.tdiv_one]
      omega
    · have h2 : x.natAbs / y.natAbs ≤ x.natAbs / 2 := Nat.div_le_div_left (by omega) (by omega)
      omega
  · omega
end Go.Proofs.Ytppidnjhdefbiaa
