/- The flow of checks that were passed (plain): going through the blocks to a standstill. -/
import Derived.Test.YtjllbchfojonhaaGreatDoorDfsLaw
namespace Go.Proofs.YtjllbchfojonhaaGreatDoor
set_option linter.unusedVariables false

section
variable (ends : Nat → List Nat) (T : Nat → Nat → Bool → Bool) (pr : Nat → List Nat) (there : Nat → Bool) (nb nc : Nat)
def meetB (I : List (List Bool)) (b i : Nat) : Bool := ((pr b).filter there).all fun p => T i p (I[p]![i]!)
def meetL (I : List (List Bool)) (b : Nat) : List Bool := (List.range nc).map (meetB T pr there I b)
structure GFlow (I : List (List Bool)) : Prop where
  il : I.length = nb
  iw : ∀ b, b < nb → I[b]!.length = nc
  comp : ∀ b, RWay ends b → ∀ i, i < nc → I[b]![i]! = false → GWay ends (T i) b false
  down : ∀ b, RWay ends b → b ≠ 0 → ∀ i, i < nc → meetB T pr there I b i = true → I[b]![i]! = true
  zero : ∀ i, i < nc → I[0]![i]! = false
structure GFrame : Prop where
  mono : ∀ i a, Mono (T i a)
  lt : ∀ c, c < nb → ∀ d ∈ ends c, d < nb
  prs : ∀ b, b < nb → ∀ p, p ∈ pr b ↔ p < nb ∧ b ∈ ends p
  ther : ∀ b, b < nb → (there b = true ↔ RWay ends b)
  pos : 0 < nb
end
section
variable {ends : Nat → List Nat} {T : Nat → Nat → Bool → Bool} {pr : Nat → List Nat} {there : Nat → Bool} {nb nc : Nat} {I : List (List Bool)}
theorem rway_lt (h : GFrame ends T pr there nb) {b : Nat} (hr : RWay ends b) : b < nb := by
  induction hr with
  | start => exact h.pos
  | step _ hs ih => exact h.lt _ ih _ hs
theorem meetL_len (I : List (List Bool)) (b : Nat) : (meetL T pr there nc I b).length = nc := by simp [meetL]
theorem meetL_at (I : List (List Bool)) (b : Nat) {i : Nat} (hi : i < nc) : (meetL T pr there nc I b)[i]! = meetB T pr there I b i := by
  rw [getElem!_pos _ i (by rw [meetL_len]; exact hi)]; simp [meetL]
theorem meetB_iff (h : GFrame ends T pr there nb) (I : List (List Bool)) {b : Nat} (hb : b < nb) (i : Nat) : meetB T pr there I b i = true ↔ ∀ p, p < nb → b ∈ ends p → RWay ends p → T i p (I[p]![i]!) = true := by
  unfold meetB
  rw [List.all_eq_true]
  constructor
  · intro h1 p hp hs hr
    exact h1 p (List.mem_filter.2 ⟨(h.prs b hb p).2 ⟨hp, hs⟩, (h.ther p hp).2 hr⟩)
  · intro h1 p hp
    obtain ⟨h2, h3⟩ := List.mem_filter.1 hp
    obtain ⟨h4, h5⟩ := (h.prs b hb p).1 h2
    exact h1 p h4 h5 ((h.ther p h4).1 h3)
theorem rb_set {l : List (List Bool)} {i j : Nat} {b : List Bool} (hi : i < l.length) : (l.set i b)[j]! = if j = i then b else l[j]! := by
  by_cases hj : j < l.length
  · rw [getElem!_pos _ j (by simpa using hj), getElem!_pos l j hj, List.getElem_set]
    by_cases e : i = j
    · rw [if_pos e, if_pos e.symm]
    · rw [if_neg e, if_neg (Ne.symm e)]
  · rw [getElem!_neg _ j (by simpa using hj), getElem!_neg l j hj, if_neg (by omega)]
theorem rep_at {α : Type} [Inhabited α] {n k : Nat} (x : α) (h : k < n) : (List.replicate n x)[k]! = x := by
  rw [getElem!_pos _ k (by simpa using h)]; simp
theorem gflow_start (h : GFrame ends T pr there nb) : GFlow ends T pr there nb nc ((List.replicate nb (List.replicate nc true)).set 0 (List.replicate nc false)) := by
  have h0 : 0 < (List.replicate nb (List.replicate nc true)).length := by simpa using h.pos
  refine ⟨by simp, fun b hb => ?_, fun b hr i hi hf => ?_, fun b hr hb i hi _ => ?_, fun i hi => ?_⟩
  · rw [rb_set h0]; split
    · simp
    · rw [rep_at _ hb]; simp
  · rw [rb_set h0] at hf
    by_cases e : b = 0
    · subst e; exact .start
    · rw [if_neg e, rep_at _ (rway_lt h hr), rep_at _ hi] at hf; cases hf
  · rw [rb_set h0, if_neg hb, rep_at _ (rway_lt h hr), rep_at _ hi]
  · rw [rb_set h0, if_pos rfl, rep_at _ hi]
theorem gflow_step (h : GFrame ends T pr there nb) (hI : GFlow ends T pr there nb nc I) {b : Nat} (hr : RWay ends b) (hb : b ≠ 0) : GFlow ends T pr there nb nc (I.set b (meetL T pr there nc I b)) := by
  have hlt := rway_lt h hr
  have h0 : b < I.length := by rw [hI.il]; exact hlt
  have less : ∀ c i, i < nc → (I.set b (meetL T pr there nc I b))[c]![i]! = true → I[c]![i]! = true := fun c i hi hc => by
    rw [rb_set h0] at hc
    by_cases e : c = b
    · rw [if_pos e, meetL_at _ _ hi] at hc
      rw [e]; exact hI.down b hr hb i hi hc
    · rwa [if_neg e] at hc
  refine ⟨by simp [hI.il], fun c hc => ?_, fun c hrc i hi hf => ?_, fun c hrc hc i hi hm => ?_, fun i hi => ?_⟩
  · rw [rb_set h0]; split
    · exact meetL_len _ _
    · exact hI.iw c hc
  · rw [rb_set h0] at hf
    by_cases e : c = b
    · rw [if_pos e, meetL_at _ _ hi] at hf
      subst e
      have : ¬ ∀ p, p < nb → c ∈ ends p → RWay ends p → T i p (I[p]![i]!) = true := fun hall => by
        rw [(meetB_iff h I hlt i).2 hall] at hf; cases hf
      apply Classical.byContradiction
      intro hno
      refine this fun p hp hs hrp => ?_
      cases ht : T i p (I[p]![i]!) with
      | true => rfl
      | false =>
        exfalso
        apply hno
        cases hJ : I[p]![i]! with
        | false =>
          rw [hJ] at ht
          have := GWay.step (hI.comp p hrp i hi hJ) hs
          rwa [ht] at this
        | true =>
          rw [hJ] at ht
          have ht2 : T i p false = false := by
            cases hx : T i p false with
            | false => rfl
            | true => have := h.mono i p hx; rw [ht] at this; cases this
          obtain ⟨g, hg⟩ := reach_gway (t := T i) hrp
          have := GWay.step hg hs
          cases g
          · rwa [ht2] at this
          · rwa [ht] at this
    · rw [if_neg e] at hf
      exact hI.comp c hrc i hi hf
  · have hcl := rway_lt h hrc
    have hm2 : meetB T pr there I c i = true := (meetB_iff h I hcl i).2 fun p hp hs hrp => by
      have := (meetB_iff h _ hcl i).1 hm p hp hs hrp
      exact mono_le (h.mono i p) (less p i hi) this
    rw [rb_set h0]
    by_cases e : c = b
    · rw [if_pos e, meetL_at _ _ hi, ← e]; exact hm2
    · rw [if_neg e]; exact hI.down c hrc hc i hi hm2
  · rw [rb_set h0, if_neg (Ne.symm hb)]; exact hI.zero i hi
def cntT (l : List Bool) : Nat := (l.filter id).length
def sumT (I : List (List Bool)) : Nat := (I.map cntT).sum
theorem cntT_le {a b : List Bool} (hl : a.length = b.length) (h : ∀ i, i < a.length → a[i]! = true → b[i]! = true) : cntT a ≤ cntT b := by
  induction a generalizing b with
  | nil => exact Nat.zero_le _
  | cons x a ih =>
    cases b with
    | nil => simp at hl
    | cons y b =>
      have h1 := h 0 (by simp)
      have h2 := ih (b := b) (by simpa using hl) (fun i hi hx => by simpa using h (i + 1) (by simpa using hi) (by simpa using hx))
      unfold cntT at *
      cases x <;> cases y <;> simp at h1 ⊢ <;> (try simp at h2) <;> omega
theorem cntT_lt {a b : List Bool} (hl : a.length = b.length) (h : ∀ i, i < a.length → a[i]! = true → b[i]! = true) (hne : a ≠ b) : cntT a < cntT b := by
  induction a generalizing b with
  | nil => cases b with
    | nil => exact absurd rfl hne
    | cons y b => simp at hl
  | cons x a ih =>
    cases b with
    | nil => simp at hl
    | cons y b =>
      have h1 := h 0 (by simp)
      have hl2 : a.length = b.length := by simpa using hl
      have h3 : ∀ i, i < a.length → a[i]! = true → b[i]! = true := fun i hi hx => by simpa using h (i + 1) (by simpa using hi) (by simpa using hx)
      by_cases e : a = b
      · subst e
        unfold cntT
        cases x <;> cases y <;> simp at h1 hne ⊢
      · have h2 := ih hl2 h3 e
        unfold cntT at *
        cases x <;> cases y <;> simp at h1 ⊢ <;> (try simp at h2) <;> omega
theorem sumT_set (I : List (List Bool)) (b : Nat) (hb : b < I.length) (s : List Bool) (h : cntT s < cntT I[b]!) : sumT (I.set b s) < sumT I := by
  unfold sumT
  induction I generalizing b with
  | nil => exact absurd hb (Nat.not_lt_zero _)
  | cons x I ih =>
    cases b with
    | zero => simp at h ⊢; omega
    | succ b =>
      have := ih b (by simpa using hb) (by simpa using h)
      simp only [List.set_cons_succ, List.map_cons, List.sum_cons]; omega
theorem gflow_less (h : GFrame ends T pr there nb) (hI : GFlow ends T pr there nb nc I) {b : Nat} (hr : RWay ends b) (hb : b ≠ 0) (hne : meetL T pr there nc I b ≠ I[b]!) : sumT (I.set b (meetL T pr there nc I b)) < sumT I := by
  have hlt := rway_lt h hr
  refine sumT_set I b (by rw [hI.il]; exact hlt) _ (cntT_lt ?_ ?_ hne)
  · rw [meetL_len, hI.iw b hlt]
  · intro i hi hm
    rw [meetL_len] at hi
    rw [meetL_at _ _ hi] at hm
    exact hI.down b hr hb i hi hm
/-- at the standstill -/
theorem gflow_done (h : GFrame ends T pr there nb) (hI : GFlow ends T pr there nb nc I) (hst : ∀ b, RWay ends b → b ≠ 0 → meetL T pr there nc I b = I[b]!) {b i : Nat} (hi : i < nc) (hr : RWay ends b) (s : Bool → Bool) (hs : Mono s) :
    s (I[b]![i]!) = true ↔ ∀ g, GWay ends (T i) b g → s g = true := by
  refine stand_at (fun b => I[b]![i]!) s hs hr (fun g hg => ?_) (fun hf => hI.comp b hr i hi hf)
  refine stand_sound (fun b => I[b]![i]!) (h.mono i) (hI.zero i hi) (fun c hrc hc hJ a hra hs2 => ?_) hg
  have h1 := hst c hrc hc
  have h2 : meetB T pr there I c i = true := by
    rw [← meetL_at (nc := nc) I c hi, h1]; exact hJ
  exact (meetB_iff h I (rway_lt h hrc) i).1 h2 a (rway_lt h hra) hs2 hra
end
end Go.Proofs.YtjllbchfojonhaaGreatDoor
