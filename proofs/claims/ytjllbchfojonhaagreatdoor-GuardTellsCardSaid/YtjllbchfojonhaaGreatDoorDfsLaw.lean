/- The search depth first (plain). -/
import Derived.Test.YtjllbchfojonhaaGreatDoorGuardLaw
namespace Go.Proofs.YtjllbchfojonhaaGreatDoor
set_option linter.unusedVariables false

structure DfsInv (ends : Nat → List Nat) (nb : Nat) (seen : List Bool) (out : List Nat) (st : List (Nat × Nat)) : Prop where
  sl : seen.length = nb
  so : ∀ c, c < nb → (seen[c]! = true ↔ c ∈ out ∨ c ∈ st.map Prod.fst)
  olt : ∀ c ∈ out, c < nb ∧ RWay ends c
  slt : ∀ p ∈ st, p.1 < nb ∧ RWay ends p.1 ∧ p.2 ≤ (ends p.1).length
  nd : (out ++ st.map Prod.fst).Nodup
  empty : st = [] → out.getLast? = some 0
  bottom : st ≠ [] → (st.map Prod.fst).head? = some 0
  od : ∀ c ∈ out, ∀ d ∈ ends c, seen[d]! = true
  sd : ∀ p ∈ st, ∀ j, j < p.2 → seen[(ends p.1)[j]!]! = true
section
variable {ends : Nat → List Nat} {nb : Nat} {seen : List Bool} {out : List Nat} {pre : List (Nat × Nat)} {c k : Nat}
def cntF (l : List Bool) : Nat := (l.filter (fun b => !b)).length
def fuelD (ends : Nat → List Nat) (seen : List Bool) (st : List (Nat × Nat)) : Nat := 4 * cntF seen + (st.map fun p => (ends p.1).length - p.2 + 1).sum
theorem cntF_set (l : List Bool) (i : Nat) (hi : i < l.length) (h : l[i]! = false) : cntF (l.set i true) + 1 = cntF l := by
  induction l generalizing i with
  | nil => exact absurd hi (Nat.not_lt_zero _)
  | cons b l ih =>
    cases i with
    | zero =>
      have hb : b = false := by simpa using h
      subst hb
      simp [cntF]
    | succ i =>
      have := ih i (by simpa using hi) (by simpa using h)
      unfold cntF at *
      cases b <;> simp at this ⊢ <;> omega
theorem lb_set {l : List Bool} {i j : Nat} {b : Bool} (hi : i < l.length) : (l.set i b)[j]! = if j = i then b else l[j]! := by
  by_cases hj : j < l.length
  · rw [getElem!_pos _ j (by simpa using hj), getElem!_pos l j hj, List.getElem_set]
    by_cases e : i = j
    · rw [if_pos e, if_pos e.symm]
    · rw [if_neg e, if_neg (Ne.symm e)]
  · rw [getElem!_neg _ j (by simpa using hj), getElem!_neg l j hj, if_neg (by omega)]
theorem dfs_start (h : 0 < nb) : DfsInv ends nb ((List.replicate nb false).set 0 true) [] [(0, 0)] := by
  refine ⟨by simp, fun c hc => ?_, by simp, ?_, by simp, by simp, by simp, by simp, ?_⟩
  · rw [lb_set (by simpa using h)]
    by_cases e : c = 0
    · simp [e]
    · rw [if_neg e, getElem!_pos _ c (by simpa using hc)]; simp [e]
  · intro p hp
    simp only [List.mem_singleton] at hp
    subst hp
    exact ⟨h, .start, Nat.zero_le _⟩
  · intro p hp j hj
    simp only [List.mem_singleton] at hp
    subst hp
    exact absurd hj (Nat.not_lt_zero _)
theorem dfs_pop (h : DfsInv ends nb seen out (pre ++ [(c, (ends c).length)])) : DfsInv ends nb seen (out ++ [c]) pre := by
  have hnd := h.nd
  rw [List.map_append, List.map_singleton, ← List.append_assoc] at hnd
  refine ⟨h.sl, fun d hd => ?_, fun d hd => ?_, fun p hp => h.slt p (List.mem_append_left _ hp), ?_, fun e => ?_, fun e => ?_, fun d hd => ?_, fun p hp => h.sd p (List.mem_append_left _ hp)⟩
  · rw [h.so d hd]
    simp only [List.map_append, List.map_singleton, List.mem_append, List.mem_singleton]
    constructor
    · rintro (h1 | h1 | h1)
      · exact .inl (.inl h1)
      · exact .inr h1
      · exact .inl (.inr h1)
    · rintro ((h1 | h1) | h1)
      · exact .inl h1
      · exact .inr (.inr h1)
      · exact .inr (.inl h1)
  · rcases List.mem_append.1 hd with h1 | h1
    · exact h.olt d h1
    · have := h.slt (c, (ends c).length) (by simp)
      rw [List.mem_singleton.1 h1]; exact ⟨this.1, this.2.1⟩
  · have : (out ++ List.map Prod.fst pre ++ [c]).Perm (out ++ [c] ++ List.map Prod.fst pre) := by
      rw [List.append_assoc, List.append_assoc]
      exact List.Perm.append_left _ List.perm_append_comm
    exact this.nodup_iff.1 hnd
  · subst e
    have := h.bottom (by simp)
    simp at this
    simp [this]
  · have := h.bottom (by simp)
    cases pre with
    | nil => exact absurd rfl e
    | cons x l => simpa using this
  · rcases List.mem_append.1 hd with h1 | h1
    · exact h.od d h1
    · rw [List.mem_singleton.1 h1]
      intro x hx
      obtain ⟨j, hj, rfl⟩ := List.mem_iff_getElem.1 hx
      have := h.sd (c, (ends c).length) (by simp) j hj
      rwa [getElem!_pos (ends c) j hj] at this
theorem dfs_old (h : DfsInv ends nb seen out (pre ++ [(c, k)])) (hk : k < (ends c).length) (hs : seen[(ends c)[k]!]! = true) : DfsInv ends nb seen out (pre ++ [(c, k + 1)]) := by
  have e : (pre ++ [(c, k + 1)]).map Prod.fst = (pre ++ [(c, k)]).map Prod.fst := by simp
  refine ⟨h.sl, fun d hd => by rw [e]; exact h.so d hd, h.olt, fun p hp => ?_, by rw [e]; exact h.nd, fun h2 => by simp at h2, fun _ => by rw [e]; exact h.bottom (by simp), h.od, fun p hp j hj => ?_⟩
  · rcases List.mem_append.1 hp with h1 | h1
    · exact h.slt p (List.mem_append_left _ h1)
    · rw [List.mem_singleton.1 h1]
      have := h.slt (c, k) (by simp)
      exact ⟨this.1, this.2.1, hk⟩
  · rcases List.mem_append.1 hp with h1 | h1
    · exact h.sd p (List.mem_append_left _ h1) j hj
    · rw [List.mem_singleton.1 h1] at hj ⊢
      by_cases e : j = k
      · subst e; exact hs
      · exact h.sd (c, k) (by simp) j (show j < k by simp at hj; omega)
theorem dfs_new (h : DfsInv ends nb seen out (pre ++ [(c, k)])) (hk : k < (ends c).length) (hlt : (ends c)[k]! < nb) (hs : seen[(ends c)[k]!]! = false) : DfsInv ends nb (seen.set (ends c)[k]! true) out (pre ++ [(c, k + 1)] ++ [((ends c)[k]!, 0)]) := by
  have hd0 : (ends c)[k]! < seen.length := by rw [h.sl]; exact hlt
  have hmem : (ends c)[k]! ∈ ends c := by rw [getElem!_pos _ k hk]; exact List.getElem_mem hk
  have hmap : (pre ++ [(c, k + 1)] ++ [((ends c)[k]!, 0)]).map Prod.fst = (pre ++ [(c, k)]).map Prod.fst ++ [(ends c)[k]!] := by simp
  have hc := h.slt (c, k) (by simp)
  generalize hdd : (ends c)[k]! = d at *
  have hnot : d ∉ out ++ (pre ++ [(c, k)]).map Prod.fst := fun hm => by
    have := (h.so d hlt).2 (List.mem_append.1 hm)
    rw [hs] at this; cases this
  have up : ∀ x : Nat, seen[x]! = true → (seen.set d true)[x]! = true := fun x hx => by
    rw [lb_set hd0]; split
    · rfl
    · exact hx
  refine ⟨by simp [h.sl], fun x hx => ?_, h.olt, fun p hp => ?_, ?_, fun h2 => by simp at h2, fun _ => ?_, fun x hx y hy => up _ (h.od x hx y hy), fun p hp j hj => ?_⟩
  · rw [lb_set hd0, hmap]
    by_cases e : x = d
    · simp [e]
    · rw [if_neg e, h.so x hx]
      simp [e]
  · rcases List.mem_append.1 hp with h1 | h1
    · rcases List.mem_append.1 h1 with h2 | h2
      · exact h.slt p (List.mem_append_left _ h2)
      · rw [List.mem_singleton.1 h2]; exact ⟨hc.1, hc.2.1, hk⟩
    · rw [List.mem_singleton.1 h1]; exact ⟨hlt, .step hc.2.1 hmem, Nat.zero_le _⟩
  · rw [hmap, ← List.append_assoc]
    refine List.nodup_append.2 ⟨h.nd, by simp, fun x hx y hy => ?_⟩
    rw [List.mem_singleton.1 hy]
    intro e; subst e; exact hnot hx
  · rw [hmap]
    have := h.bottom (by simp)
    rw [List.head?_append, this]; rfl
  · rcases List.mem_append.1 hp with h1 | h1
    · rcases List.mem_append.1 h1 with h2 | h2
      · exact up _ (h.sd p (List.mem_append_left _ h2) j hj)
      · rw [List.mem_singleton.1 h2] at hj ⊢
        by_cases e : j = k
        · subst e
          rw [lb_set hd0]
          rw [show (ends (c, j + 1).1)[j]! = d from hdd, if_pos rfl]
        · exact up _ (h.sd (c, k) (by simp) j (show j < k by simp at hj; omega))
    · rw [List.mem_singleton.1 h1] at hj; exact absurd hj (Nat.not_lt_zero _)
theorem dfs_done (h : DfsInv ends nb seen out []) (hlt : ∀ c, c < nb → ∀ d ∈ ends c, d < nb) : out.Nodup ∧ out.getLast? = some 0 ∧ (∀ c, c ∈ out ↔ RWay ends c) := by
  have h0 := h.empty rfl
  have hnd := h.nd
  simp at hnd
  refine ⟨hnd, h0, fun c => ⟨fun hc => (h.olt c hc).2, fun hc => ?_⟩⟩
  induction hc with
  | start => exact List.mem_of_getLast? h0
  | @step a c ha hs ih =>
    have h1 := h.od a ih c hs
    have := (h.so c (hlt a (h.olt a ih).1 c hs)).1 h1
    simpa using this
theorem fuel_pop : fuelD ends seen pre < fuelD ends seen (pre ++ [(c, k)]) := by
  unfold fuelD; simp
theorem fuel_old (hk : k < (ends c).length) : fuelD ends seen (pre ++ [(c, k + 1)]) < fuelD ends seen (pre ++ [(c, k)]) := by
  unfold fuelD; simp; omega
theorem fuel_new {d : Nat} (hk : k < (ends c).length) (hd : d < seen.length) (hs : seen[d]! = false) (h2 : (ends d).length ≤ 2) : fuelD ends (seen.set d true) (pre ++ [(c, k + 1)] ++ [(d, 0)]) < fuelD ends seen (pre ++ [(c, k)]) := by
  unfold fuelD
  have := cntF_set seen d hd hs
  simp; omega
end
end Go.Proofs.YtjllbchfojonhaaGreatDoor
