/- The law ScanLines: two lists of lines in memory, held one against the other. -/
import Derived.Test.YthcdibpajdnjaaaDoorSteps
namespace Go.Proofs.YthcdibpajdnjaaaDoor
open Go.RowKit
set_option linter.unusedVariables false

/-- what was told, from line k on, and what is wanted -/
structure Cmp (w : World) (A b : Nat) (vg vw : Value) (Gs Rs : List LineV) (k : Nat) : Prop where
  grow : w.ownsRow A 29 2 vg Gs.length (Gs.flatMap lineCells)
  gwords : ∀ j p, k ≤ j → Gs[j]? = some p → w.ownsRow A 9 1 p.2 p.1.2.length (wordVals p.1.2)
  glow : ∀ x, vg.ownBlock = some x → x < b - 1
  wlow : ∀ p ∈ Gs, ∀ x, p.2.ownBlock = some x → x < b - 1
  apart : Gs.Pairwise fun p q => ∀ x, p.2.ownBlock = some x → q.2.ownBlock ≠ some x
  wantB : Blk w b 23 #[vw]
  want : WantAt w (b + 6) b vw Rs
  size : b + 6 ≤ w.heap.size
section
variable {w w' : World} {A b : Nat} {vg vw : Value} {Gs Rs : List LineV} {k : Nat}
theorem Cmp.keep (h : Cmp w A b vg vw Gs Rs k) (hk : Keeps w w' []) : Cmp w' A b vg vw Gs Rs k :=
  ⟨own_keep h.grow hk (by simp), fun j p hj hp => own_keep (h.gwords j p hj hp) hk (by simp), h.glow, h.wlow, h.apart, h.wantB.keep hk (by simp), ⟨own_keep h.want.row hk (by simp), h.want.high, fun p hp => own_keep (h.want.words p hp) hk (by simp)⟩, by have := h.size; have := hk.size; omega⟩
theorem Cmp.next (h : Cmp w A b vg vw Gs Rs k) : Cmp w A b vg vw Gs Rs (k + 1) := ⟨h.grow, fun j p hj hp => h.gwords j p (by omega) hp, h.glow, h.wlow, h.apart, h.wantB, h.want, h.size⟩
theorem lines_at {Gs : List LineV} {k : Nat} {p : LineV} (hp : Gs[k]? = some p) : (Gs.flatMap lineCells)[k * 2]? = some (.int .i64 p.1.1) ∧ (Gs.flatMap lineCells)[k * 2 + 1]? = some p.2 := by
  induction Gs generalizing k with
  | nil => simp at hp
  | cons q Gs ih =>
    cases k with
    | zero =>
      simp at hp
      subst hp
      simp [lineCells]
    | succ k =>
      simp at hp
      have := ih hp
      rw [List.flatMap_cons]
      have hl : (lineCells q).length = 2 := rfl
      rw [List.getElem?_append_right (by rw [hl]; omega), List.getElem?_append_right (by rw [hl]; omega), hl, show (k + 1) * 2 - 2 = k * 2 by omega, show (k + 1) * 2 + 1 - 2 = k * 2 + 1 by omega]
      exact this
/-- a store into a word of line k -/
theorem Cmp.store (h : Cmp w A b vg vw Gs Rs (k + 1)) {p : LineV} {g : Nat} (hp : Gs[k]? = some p) (hg : p.2.ownBlock = some g) {cur : Array Value} (hb : Blk w g 9 cur) (i : Nat) (u : Value) : Cmp (w.setCell ⟨g, i, none⟩ u) A b vg vw Gs Rs (k + 1) := by
  have hk : Keeps w (w.setCell ⟨g, i, none⟩ u) [g] := (Keeps.refl w _).setCell (p := ⟨g, i, none⟩) (.inl (by simp)) _
  have hlow := h.wlow p (List.mem_of_getElem? hp) g hg
  refine ⟨own_keep h.grow hk (fun x hx hm => ?_), fun j q hj hq => own_keep (h.gwords j q hj hq) hk (fun x hx hm => ?_), h.glow, h.wlow, h.apart, h.wantB.keep hk (by simp; omega), ⟨own_keep h.want.row hk (fun x hx hm => ?_), h.want.high, fun q hq => own_keep (h.want.words q hq) hk (fun x hx hm => ?_)⟩, by have := h.size; have := hk.size; omega⟩
  · simp only [List.mem_singleton] at hm
    subst hm
    exact own_ne h.grow hb (by decide) hx
  · simp only [List.mem_singleton] at hm
    subst hm
    have hkl : k < Gs.length := (List.getElem?_eq_some_iff.1 hp).1
    have hjl : j < Gs.length := (List.getElem?_eq_some_iff.1 hq).1
    have h1 := List.pairwise_iff_getElem.1 h.apart k j hkl hjl (by omega)
    rw [(List.getElem?_eq_some_iff.1 hp).2, (List.getElem?_eq_some_iff.1 hq).2] at h1
    exact h1 x hg hx
  · simp only [List.mem_singleton] at hm
    subst hm
    have := h.want.high x hx
    omega
  · simp only [List.mem_singleton] at hm
    subst hm
    have := (own_lt (h.want.words q hq) hx).2
    omega
/-- words from the j-th on -/
def RowFrom (w : World) (A : Nat) (a : Option Addr) (ws : List (List UInt8)) (j : Nat) : Prop := 0 < ws.length → ∃ h cur, a = some ⟨h, 0, none⟩ ∧ A ≤ h ∧ Blk w h 9 cur ∧ ∀ x, j ≤ x → x < ws.length → cur[x]? = (wordVals ws)[x]?
theorem RowFrom.of_own {a : Option Addr} {c : Nat} {ws : List (List UInt8)} (h : w.ownsRow A 9 1 (.slice a ws.length c) ws.length (wordVals ws)) : RowFrom w A a ws 0 := by
  intro hp
  rcases h.2 with ⟨_, h0⟩ | ⟨g, cap, cur, h1, h2, h3, h4, h5, h6, h7⟩
  · omega
  · cases h1
    refine ⟨g, cur, rfl, h2, h3, fun x _ hx => ?_⟩
    rw [← h7, List.getElem?_take, if_pos (by omega), Array.getElem?_toList]
theorem RowFrom.store {a : Option Addr} {ws : List (List UInt8)} {j h : Nat} {cur : Array Value} (hb : Blk w h 9 cur) (hA : A ≤ h) (hc : ∀ x, j ≤ x → x < ws.length → cur[x]? = (wordVals ws)[x]?) (u : Value) : RowFrom (w.setCell ⟨h, j, none⟩ u) A (some ⟨h, 0, none⟩) ws (j + 1) := by
  intro _
  refine ⟨h, _, rfl, hA, hb.set_ j u, fun x hx hl => ?_⟩
  rw [Array.getElem?_setIfInBounds, if_neg (by omega)]
  exact hc x (by omega) hl
theorem Cmp.start {W0 w2 w5 : World} {A b n : Nat} {vg vw lv : Value} {Gs Rs : List LineV} (hL : LinesAt w2 A vg Gs) (k0 : Keeps w2 W0 []) (hb : w2.heap.size + 1 = b) (hT : Turned W0 w5 ((b + 5) :: vars4 b) (b + 6)) (hS : St w5 (b + 6) b Rs n [] [] false vw lv) :
    Cmp w5 A b vg vw Gs Rs 0 := by
  have hL0 := hL.keep k0
  have hg : ∀ x, vg.ownBlock = some x → x < b - 1 := fun x hx => by have := (own_lt hL.row hx).1; omega
  have hw : ∀ p ∈ Gs, ∀ x, p.2.ownBlock = some x → x < b - 1 := fun p hp x hx => by have := (own_lt (hL.words p hp) hx).1; omega
  refine ⟨own_turned hL0.row hT (fun x hx => ?_), fun j p _ hp => own_turned (hL0.words p (List.mem_of_getElem? hp)) hT (fun x hx => ?_), hg, hw, hL.apart, hS.wantB, hS.want, hS.size⟩
  · have := hg x hx
    exact ⟨by omega, by simp; omega⟩
  · have := hw p (List.mem_of_getElem? hp) x hx
    exact ⟨by omega, by simp; omega⟩
end
end Go.Proofs.YthcdibpajdnjaaaDoor
