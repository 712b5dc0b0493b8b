/- Ways with a mark (plain): what the going through to a standstill comes to; the search depth first. -/
import Derived.WalkKit
namespace Go.Proofs.YtjllbchfojonhaaGreatDoor
set_option linter.unusedVariables false

inductive RWay (succ : Nat → List Nat) : Nat → Prop
  | start : RWay succ 0
  | step {a c : Nat} : RWay succ a → c ∈ succ a → RWay succ c
inductive GWay (succ : Nat → List Nat) (t : Nat → Bool → Bool) : Nat → Bool → Prop
  | start : GWay succ t 0 false
  | step {a c : Nat} {g : Bool} : GWay succ t a g → c ∈ succ a → GWay succ t c (t a g)
section
variable {succ : Nat → List Nat} {t : Nat → Bool → Bool}
theorem gway_reach {b : Nat} {g : Bool} (h : GWay succ t b g) : RWay succ b := by
  induction h with
  | start => exact .start
  | step _ hs ih => exact .step ih hs
theorem reach_gway {b : Nat} (h : RWay succ b) : ∃ g, GWay succ t b g := by
  induction h with
  | start => exact ⟨_, .start⟩
  | step _ hs ih => obtain ⟨g, hg⟩ := ih; exact ⟨_, .step hg hs⟩
/-- a mark map that only rises or stays: id, always, never -/
def Mono (s : Bool → Bool) : Prop := s false = true → s true = true
theorem mono_le {s : Bool → Bool} (h : Mono s) {a b : Bool} (hab : a = true → b = true) (ha : s a = true) : s b = true := by
  cases a <;> cases b
  · exact ha
  · exact h ha
  · exact absurd (hab rfl) (by simp)
  · exact ha
/-- at a standstill: J b is good at the beginning -/
theorem stand_sound (J : Nat → Bool) (hm : ∀ a, Mono (t a)) (h0 : J 0 = false) (hfix : ∀ c, RWay succ c → c ≠ 0 → J c = true → ∀ a, RWay succ a → c ∈ succ a → t a (J a) = true) {b : Nat} {g : Bool} (h : GWay succ t b g) : J b = true → g = true := by
  induction h with
  | start => intro h; rw [h0] at h; cases h
  | @step a c g hw hs ih =>
    intro hJ
    have hc : c ≠ 0 := fun e => by rw [e, h0] at hJ; cases hJ
    exact mono_le (hm a) ih (hfix c (.step (gway_reach hw) hs) hc hJ a (gway_reach hw) hs)
theorem stand_at (J : Nat → Bool) (s : Bool → Bool) (hs : Mono s) {b : Nat} (hr : RWay succ b) (h1 : ∀ g, GWay succ t b g → J b = true → g = true) (h2 : J b = false → GWay succ t b false) :
    s (J b) = true ↔ ∀ g, GWay succ t b g → s g = true := by
  constructor
  · intro h g hg
    exact mono_le hs (h1 g hg) h
  · intro h
    cases hJ : J b with
    | true =>
      obtain ⟨g, hg⟩ := reach_gway (t := t) hr
      have := h1 g hg hJ
      subst this
      exact h _ hg
    | false => exact h _ (h2 hJ)
/-- the document's: bad, fine closed, and reached -/
theorem marks_closed (bad fine : Nat → Bool) (hb0 : bad 0 = true) (hcl : ∀ a, RWay succ a → ∀ c ∈ succ a, (bad a = true → if t a false = true then fine c = true else bad c = true) ∧ (fine a = true → if t a true = true then fine c = true else bad c = true))
    {b : Nat} {g : Bool} (h : GWay succ t b g) : (g = false → bad b = true) ∧ (g = true → fine b = true) := by
  induction h with
  | start => exact ⟨fun _ => hb0, fun h => by cases h⟩
  | @step a c g hw hs ih =>
    have hk := hcl a (gway_reach hw) c hs
    cases g with
    | false =>
      have h1 := hk.1 (ih.1 rfl)
      constructor
      · intro e; rw [if_neg (by rw [e]; simp)] at h1; exact h1
      · intro e; rw [if_pos e] at h1; exact h1
    | true =>
      have h1 := hk.2 (ih.2 rfl)
      constructor
      · intro e; rw [if_neg (by rw [e]; simp)] at h1; exact h1
      · intro e; rw [if_pos e] at h1; exact h1
end
end Go.Proofs.YtjllbchfojonhaaGreatDoor
