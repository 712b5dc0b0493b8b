/- Whether a check is good at a place (plain): the marks bad and fine, closed. -/
import Derived.Test.YtjllbchfojonhaaGreatDoorGFlow
namespace Go.Proofs.YtjllbchfojonhaaGreatDoor
set_option linter.unusedVariables false

def mkd (bd fn : List Bool) (g : Bool) (c : Nat) : Bool := if g then fn[c]! else bd[c]!
structure MarkI (succ : Nat → List Nat) (t : Nat → Bool → Bool) (nb : Nat) (bd fn : List Bool) : Prop where
  lb : bd.length = nb
  lf : fn.length = nb
  b0 : bd[0]! = true
  ok : ∀ g c, mkd bd fn g c = true → GWay succ t c g
def ClosedG (succ : Nat → List Nat) (t : Nat → Bool → Bool) (bd fn : List Bool) (a : Nat) (g : Bool) : Prop := mkd bd fn g a = true → ∀ c ∈ succ a, mkd bd fn (t a g) c = true
def kb (k : Nat) : Bool := k == 1
/-- what a pass has come to: all blocks ahead of a, of a the marks ahead of k, of these the ends ahead of y -/
structure PassG (succ : Nat → List Nat) (t : Nat → Bool → Bool) (nb : Nat) (bd0 fn0 bd fn : List Bool) (g : Bool) (a k y : Nat) : Prop where
  i : MarkI succ t nb bd fn
  no : g = false → (bd = bd0 ∧ fn = fn0) ∧ (∀ a', a' < a → ∀ h, ClosedG succ t bd fn a' h) ∧ (∀ k', k' < k → ClosedG succ t bd fn a (kb k')) ∧ (mkd bd fn (kb k) a = true → ∀ c ∈ succ a, c < y → mkd bd fn (t a (kb k)) c = true)
  yes : g = true → cntF bd + cntF fn < cntF bd0 + cntF fn0
section
variable {succ : Nat → List Nat} {t : Nat → Bool → Bool} {nb : Nat} {bd0 fn0 bd fn : List Bool} {g : Bool} {a k y : Nat}
theorem gp_start (h : MarkI succ t nb bd fn) : PassG succ t nb bd fn bd fn false 0 0 0 :=
  ⟨h, fun _ => ⟨⟨rfl, rfl⟩, fun _ h => absurd h (Nat.not_lt_zero _), fun _ h => absurd h (Nat.not_lt_zero _), fun _ _ _ h => absurd h (Nat.not_lt_zero _)⟩, fun e => by cases e⟩
theorem gp_block (h : PassG succ t nb bd0 fn0 bd fn g a 2 0) : PassG succ t nb bd0 fn0 bd fn g (a + 1) 0 0 :=
  ⟨h.i, fun e => ⟨(h.no e).1, fun a' ha' hh => by
    rcases Nat.lt_succ_iff_lt_or_eq.1 ha' with h1 | rfl
    · exact (h.no e).2.1 a' h1 hh
    · cases hh
      · exact (h.no e).2.2.1 0 (by omega)
      · exact (h.no e).2.2.1 1 (by omega), fun _ h => absurd h (Nat.not_lt_zero _), fun _ _ _ h => absurd h (Nat.not_lt_zero _)⟩, h.yes⟩
theorem gp_mark (h : PassG succ t nb bd0 fn0 bd fn g a k y) (hy : ∀ c ∈ succ a, c < y) : PassG succ t nb bd0 fn0 bd fn g a (k + 1) 0 :=
  ⟨h.i, fun e => ⟨(h.no e).1, (h.no e).2.1, fun k' hk' => by
    rcases Nat.lt_succ_iff_lt_or_eq.1 hk' with h1 | rfl
    · exact (h.no e).2.2.1 k' h1
    · exact fun hm c hc => (h.no e).2.2.2 hm c hc (hy c hc), fun _ _ _ h => absurd h (Nat.not_lt_zero _)⟩, h.yes⟩
theorem gp_skip (h : PassG succ t nb bd0 fn0 bd fn g a k 0) (hm : mkd bd fn (kb k) a = false) : PassG succ t nb bd0 fn0 bd fn g a (k + 1) 0 :=
  ⟨h.i, fun e => ⟨(h.no e).1, (h.no e).2.1, fun k' hk' => by
    rcases Nat.lt_succ_iff_lt_or_eq.1 hk' with h1 | rfl
    · exact (h.no e).2.2.1 k' h1
    · exact fun hx => (by rw [hm] at hx; cases hx), fun _ _ _ h => absurd h (Nat.not_lt_zero _)⟩, h.yes⟩
theorem gp_same (h : PassG succ t nb bd0 fn0 bd fn g a k y) (hr : y ∈ succ a → mkd bd fn (t a (kb k)) y = true) : PassG succ t nb bd0 fn0 bd fn g a k (y + 1) :=
  ⟨h.i, fun e => ⟨(h.no e).1, (h.no e).2.1, (h.no e).2.2.1, fun hm c hc hcy => by
    rcases Nat.lt_succ_iff_lt_or_eq.1 hcy with h1 | rfl
    · exact (h.no e).2.2.2 hm c hc h1
    · exact hr hc⟩, h.yes⟩
theorem mkd_fine (hy : y < fn.length) (h : Bool) (c : Nat) : mkd bd (fn.set y true) h c = if h = true ∧ c = y then true else mkd bd fn h c := by
  unfold mkd
  cases h
  · simp
  · rw [if_pos rfl, lb_set hy]; simp
theorem mkd_bad (hy : y < bd.length) (h : Bool) (c : Nat) : mkd (bd.set y true) fn h c = if h = false ∧ c = y then true else mkd bd fn h c := by
  unfold mkd
  cases h
  · rw [if_neg (by simp), lb_set hy]; simp
  · simp
theorem gp_fine (h : PassG succ t nb bd0 fn0 bd fn g a k y) (hm : mkd bd fn (kb k) a = true) (hs : y ∈ succ a) (hy : y < nb) (ht : t a (kb k) = true) (hf : fn[y]! = false) : PassG succ t nb bd0 fn0 bd (fn.set y true) true a k (y + 1) := by
  have hl : y < fn.length := by rw [h.i.lf]; exact hy
  have hc := cntF_set fn y hl hf
  refine ⟨⟨h.i.lb, by simp [h.i.lf], h.i.b0, fun b c hb => ?_⟩, fun e => (by cases e), fun _ => ?_⟩
  · rw [mkd_fine hl] at hb
    by_cases e : b = true ∧ c = y
    · rw [e.1, e.2]
      have := GWay.step (t := t) (h.i.ok _ _ hm) hs
      rwa [ht] at this
    · rw [if_neg e] at hb; exact h.i.ok _ _ hb
  · cases g with
    | true => have := h.yes rfl; omega
    | false => obtain ⟨rfl, rfl⟩ := (h.no rfl).1; omega
theorem gp_bad (h : PassG succ t nb bd0 fn0 bd fn g a k y) (hm : mkd bd fn (kb k) a = true) (hs : y ∈ succ a) (hy : y < nb) (ht : t a (kb k) = false) (hf : bd[y]! = false) : PassG succ t nb bd0 fn0 (bd.set y true) fn true a k (y + 1) := by
  have hl : y < bd.length := by rw [h.i.lb]; exact hy
  have hc := cntF_set bd y hl hf
  refine ⟨⟨by simp [h.i.lb], h.i.lf, ?_, fun b c hb => ?_⟩, fun e => (by cases e), fun _ => ?_⟩
  · rw [lb_set hl]; split
    · rfl
    · exact h.i.b0
  · rw [mkd_bad hl] at hb
    by_cases e : b = false ∧ c = y
    · rw [e.1, e.2]
      have := GWay.step (t := t) (h.i.ok _ _ hm) hs
      rwa [ht] at this
    · rw [if_neg e] at hb; exact h.i.ok _ _ hb
  · cases g with
    | true => have := h.yes rfl; omega
    | false => obtain ⟨rfl, rfl⟩ := (h.no rfl).1; omega
theorem mkd_fine_keep (hl : y < fn.length) {b : Bool} {c : Nat} (h : mkd bd fn b c = true) : mkd bd (fn.set y true) b c = true := by
  rw [mkd_fine hl]; split
  · rfl
  · exact h
theorem mkd_bad_keep (hl : y < bd.length) {b : Bool} {c : Nat} (h : mkd bd fn b c = true) : mkd (bd.set y true) fn b c = true := by
  rw [mkd_bad hl]; split
  · rfl
  · exact h
/-- at the standstill -/
theorem marks_done (h : MarkI succ t nb bd fn) (hlt : ∀ a, ∀ c ∈ succ a, c < nb) (hcl : ∀ a, a < nb → ∀ b, ClosedG succ t bd fn a b) (hp : 0 < nb) {c : Nat} {b : Bool} : mkd bd fn b c = true ↔ GWay succ t c b := by
  refine ⟨h.ok b c, fun hw => ?_⟩
  have : c < nb ∧ mkd bd fn b c = true := by
    induction hw with
    | start => exact ⟨hp, h.b0⟩
    | @step a c g hw hs ih => exact ⟨hlt a c hs, hcl a ih.1 g ih.2 c hs⟩
  exact this.2
theorem marks_start (hp : 0 < nb) : MarkI succ t nb ((List.replicate nb false).set 0 true) (List.replicate nb false) := by
  have hl : 0 < (List.replicate nb false).length := by simpa using hp
  have hr : ∀ c, (List.replicate nb false)[c]! = false := fun c => by
    by_cases hc : c < nb
    · rw [getElem!_pos _ c (by simpa using hc)]; simp
    · rw [getElem!_neg _ c (by simpa using hc)]; rfl
  refine ⟨by simp, by simp, by rw [lb_set hl, if_pos rfl], fun b c hb => ?_⟩
  rw [mkd_bad hl] at hb
  by_cases e : b = false ∧ c = 0
  · rw [e.1, e.2]; exact .start
  · rw [if_neg e] at hb
    unfold mkd at hb
    cases b <;> simp [hr] at hb
/-- the answer -/
theorem good_iff (h : ∀ b c, mkd bd fn b c = true ↔ GWay succ t c b) (s : Bool → Bool) (c : Nat) : ((!bd[c]! || s false) && (!fn[c]! || s true)) = true ↔ ∀ g, GWay succ t c g → s g = true := by
  have h0 := h false c
  have h1 := h true c
  simp only [mkd, if_true, Bool.false_eq_true, if_false] at h0 h1
  constructor
  · intro hh g hg
    rw [Bool.and_eq_true] at hh
    cases g
    · have := h0.2 hg; rw [this] at hh; simpa using hh.1
    · have := h1.2 hg; rw [this] at hh; simpa using hh.2
  · intro hh
    rw [Bool.and_eq_true]
    constructor
    · cases hb : bd[c]!
      · rfl
      · rw [hh _ (h0.1 hb)]; rfl
    · cases hb : fn[c]!
      · rfl
      · rw [hh _ (h1.1 hb)]; rfl
end
end Go.Proofs.YtjllbchfojonhaaGreatDoor
