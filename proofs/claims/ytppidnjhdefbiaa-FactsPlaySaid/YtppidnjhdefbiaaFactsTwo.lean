/- Two stacks of facts side by side. -/
import Derived.Test.YtppidnjhdefbiaaFactsSoundWalk
namespace Go.Proofs.Ytppidnjhdefbiaa
open Go.RowKit
set_option linter.unusedVariables false

/-- two stacks that share nothing -/
structure Two (w wr : World) (g1 g2 n : Nat) (l1 m1 l2 m2 : Value) (L1 : List Chain.Fct) (M1 : List Nat) (L2 : List Chain.Fct) (M2 : List Nat) : Prop where
  s : Stk wr w.heap.size g1 l1 m1 n L1 M1
  t : Stk wr w.heap.size g2 l2 m2 n L2 M2
  ne : g1 ≠ g2
  apl : ∀ i, l1.ownBlock = some i → l2.ownBlock ≠ some i
  apm : ∀ i, m1.ownBlock = some i → m2.ownBlock ≠ some i
  keeps : Keeps w wr []

theorem Two.symm {w wr : World} {g1 g2 n : Nat} {l1 m1 l2 m2 : Value} {L1 L2 : List Chain.Fct} {M1 M2 : List Nat} (h : Two w wr g1 g2 n l1 m1 l2 m2 L1 M1 L2 M2) : Two w wr g2 g1 n l2 m2 l1 m1 L2 M2 L1 M1 :=
  ⟨h.t, h.s, h.ne.symm, fun i h1 h2 => h.apl i h2 h1, fun i h1 h2 => h.apm i h2 h1, h.keeps⟩

theorem Two.calm {w wr w' : World} {g1 g2 n : Nat} {l1 m1 l2 m2 : Value} {L1 L2 : List Chain.Fct} {M1 M2 : List Nat} (h : Two w wr g1 g2 n l1 m1 l2 m2 L1 M1 L2 M2) (k : Keeps wr w' []) : Two w w' g1 g2 n l1 m1 l2 m2 L1 M1 L2 M2 :=
  ⟨h.s.keep k (by simp) (by simp) (by simp), h.t.keep k (by simp) (by simp) (by simp), h.ne, h.apl, h.apm, keep_own h.keeps k (by simp)⟩

theorem Two.op {w wr w' : World} {g1 g2 n : Nat} {l1 m1 l2 m2 l1' m1' : Value} {L1 L2 L1' : List Chain.Fct} {M1 M2 M1' : List Nat} (h : Two w wr g1 g2 n l1 m1 l2 m2 L1 M1 L2 M2) {S : List Nat}
    (hs : Stk w' w.heap.size g1 l1' m1' n L1' M1') (k : Keeps wr w' S) (hS : ∀ i ∈ S, i = g1 ∨ l1.ownBlock = some i ∨ m1.ownBlock = some i)
    (hl : ∀ i, l1'.ownBlock = some i → l1.ownBlock = some i ∨ wr.heap.size ≤ i) (hm : ∀ i, m1'.ownBlock = some i → m1.ownBlock = some i ∨ wr.heap.size ≤ i) : Two w w' g1 g2 n l1' m1' l2 m2 L1' M1' L2 M2 := by
  have e1 : g2 ∉ S := fun hi => by
    rcases hS g2 hi with h1 | h1 | h1
    · exact h.ne h1.symm
    · exact own_ne h.s.facts h.t.blk (by decide) h1
    · exact own_ne h.s.marks h.t.blk (by decide) h1
  have e2 : ∀ i, l2.ownBlock = some i → i ∉ S := fun i h2 hi => by
    rcases hS i hi with h1 | h1 | h1
    · subst h1; exact own_ne h.t.facts h.s.blk (by decide) h2
    · exact h.apl i h1 h2
    · exact own_apart h.s.marks h.t.facts (by decide) h1 h2
  have e3 : ∀ i, m2.ownBlock = some i → i ∉ S := fun i h2 hi => by
    rcases hS i hi with h1 | h1 | h1
    · subst h1; exact own_ne h.t.marks h.s.blk (by decide) h2
    · exact own_apart h.s.facts h.t.marks (by decide) h1 h2
    · exact h.apm i h1 h2
  refine ⟨hs, h.t.keep k e1 e2 e3, h.ne, fun i h1 h2 => ?_, fun i h1 h2 => ?_, keep_own h.keeps k (fun i hi => ?_)⟩
  · rcases hl i h1 with h3 | h3
    · exact h.apl i h3 h2
    · have := (own_lt h.t.facts h2).1; omega
  · rcases hm i h1 with h3 | h3
    · exact h.apm i h3 h2
    · have := (own_lt h.t.marks h2).1; omega
  · rcases hS i hi with h1 | h1 | h1
    · subst h1; exact h.s.base
    · exact (own_lt h.s.facts h1).2
    · exact (own_lt h.s.marks h1).2

theorem Two.add {w wr w' : World} {g1 g2 n : Nat} {l1 m1 l2 m2 : Value} {L1 L2 L1' : List Chain.Fct} {M1 M2 : List Nat} (h : Two w wr g1 g2 n l1 m1 l2 m2 L1 M1 L2 M2) (ha : Added wr w.heap.size g1 l1 m1 n L1' M1 w') :
    ∃ l1', Two w w' g1 g2 n l1' m1 l2 m2 L1' M1 L2 M2 := by
  obtain ⟨l1', h1, h2, h3⟩ := ha
  refine ⟨l1', h.op h1 h2 (fun i hi => ?_) h3 (fun i hi => .inl hi)⟩
  simp at hi
  rcases hi with hi | hi
  · exact .inl hi
  · exact .inr (.inl hi)
theorem Two.push {w wr w' : World} {g1 g2 n : Nat} {l1 m1 l2 m2 : Value} {L1 L2 : List Chain.Fct} {M1 M2 M1' : List Nat} (h : Two w wr g1 g2 n l1 m1 l2 m2 L1 M1 L2 M2) (ha : Pushed wr w.heap.size g1 l1 m1 n L1 M1' w') :
    ∃ m1', Two w w' g1 g2 n l1 m1' l2 m2 L1 M1' L2 M2 := by
  obtain ⟨m1', h1, h2, h3⟩ := ha
  refine ⟨m1', h.op h1 h2 (fun i hi => ?_) (fun i hi => .inl hi) h3⟩
  simp at hi
  rcases hi with hi | hi
  · exact .inl hi
  · exact .inr (.inr hi)
theorem Two.pop {w wr w' : World} {g1 g2 n : Nat} {l1 m1 l2 m2 : Value} {L1 L2 L1' : List Chain.Fct} {M1 M2 M1' : List Nat} (h : Two w wr g1 g2 n l1 m1 l2 m2 L1 M1 L2 M2) (ha : Popped wr w.heap.size g1 l1 m1 n L1' M1' w') :
    ∃ l1' m1', Two w w' g1 g2 n l1' m1' l2 m2 L1' M1' L2 M2 := by
  obtain ⟨l1', m1', h1, h2, h3, h4⟩ := ha
  refine ⟨l1', m1', h.op h1 h2 (fun i hi => ?_) (fun i hi => .inl (h3 ▸ hi)) (fun i hi => .inl (h4 ▸ hi))⟩
  simp at hi
  exact .inl hi
end Go.Proofs.Ytppidnjhdefbiaa
