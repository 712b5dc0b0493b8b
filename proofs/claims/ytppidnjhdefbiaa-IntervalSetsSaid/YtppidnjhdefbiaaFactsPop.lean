/- Package facts: the contract of Pop. -/
import Derived.Test.YtppidnjhdefbiaaFactsOps
namespace Go.Proofs.Ytppidnjhdefbiaa
open Go.RowKit
set_option linter.unusedVariables false

theorem own_cut {w : World} {base : Nat} {e : TypeId} {size n k cap : Nat} {a : Option Addr} {xs : List Value} (h : w.ownsRow base e size (.slice a n cap) n xs) (hk : k ≤ n) : w.ownsRow base e size (.slice a k cap) k (xs.take (k * size)) := by
  obtain ⟨h1, h2⟩ := h
  have hkn : k * size ≤ n * size := Nat.mul_le_mul_right _ hk
  refine ⟨by rw [List.length_take, h1]; omega, ?_⟩
  rcases h2 with ⟨h2, rfl⟩ | ⟨g, cap', cur, hv, hg, hh, hc, hm, hs, ht⟩
  · cases h2
    exact .inl ⟨by rw [show k = 0 by omega], by omega⟩
  · cases hv
    refine .inr ⟨g, _, cur, rfl, hg, hh, by omega, hm, hs, ?_⟩
    rw [← ht, List.take_take]
    congr 1
    omega

theorem pop_nil (w : World) : Calls Try.prog 36 #[.pointer none] w fun e w' => e = .returned (.bool false) ∧ w = w' := by
  go_enter Try.func36, Try.ntmps36
  go_wp2_with (go_at_call 35; refine (depth_nil _).mono ?_; rintro e w' ⟨rfl, rfl⟩)
  go_ret
  exact ⟨rfl, rfl⟩

theorem pop_none {w : World} {B g n : Nat} {lv mv : Value} {L : List Chain.Fct} (h : Stk w B g lv mv n L []) :
    Calls Try.prog 36 #[.pointer (some ⟨g, 0, none⟩)] w fun e w' => e = .returned (.bool false) ∧ w = w' := by
  have c := kept (depth_any h)
  clear h
  go_enter Try.func36, Try.ntmps36
  go_wp2_with (go_at_call 35; refine c.out.mono ?_; rintro e w' ⟨rfl, rfl⟩)
  go_ret
  exact ⟨rfl, rfl⟩

/-- what a Pop leaves -/
def Popped (w : World) (B g : Nat) (lv mv : Value) (n : Nat) (L : List Chain.Fct) (M : List Nat) (w' : World) : Prop :=
  ∃ lv' mv', Stk w' B g lv' mv' n L M ∧ Keeps w w' [g] ∧ lv'.ownBlock = lv.ownBlock ∧ mv'.ownBlock = mv.ownBlock

theorem take_flat (L : List Chain.Fct) : ∀ m : Nat, (L.flatMap fctCells).take (m * 3) = (L.take m).flatMap fctCells := by
  induction L with
  | nil => intro m; simp
  | cons f L ih =>
    intro m
    cases m with
    | zero => simp
    | succ m =>
      rw [List.take_succ_cons, List.flatMap_cons, List.flatMap_cons, ← ih m]
      simp [fctCells, Nat.add_mul]

theorem popped_of {w : World} {B g n m cap cam : Nat} {a am : Option Addr} {L : List Chain.Fct} {M : List Nat} (h : Stk w B g (.slice a L.length cap) (.slice am (M.length + 1) cam) n L (M ++ [m])) (hm : m ≤ L.length) (k : Nat) :
    Popped w B g (.slice a L.length cap) (.slice am (M.length + 1) cam) n (L.take m) M (((w.drewN k).setCell ⟨g, 1, none⟩ (.slice a m cap)).setCell ⟨g, 2, none⟩ (.slice am M.length cam)) := by
  have hf := own_cut h.facts hm
  have hk := h.marks
  rw [List.length_append] at hk
  have hk' := own_cut hk (show M.length ≤ M.length + [m].length by omega)
  have n1 : Value.ownBlock (.slice a m cap) ≠ some g := by
    have := own_ne h.facts h.blk (by decide); cases a <;> first | exact this | simp [Value.ownBlock]
  have n2 : Value.ownBlock (.slice am M.length cam) ≠ some g := by
    have := own_ne hk h.blk (by decide); cases am <;> first | exact this | simp [Value.ownBlock]
  have K : Keeps w (((w.drewN k).setCell ⟨g, 1, none⟩ (.slice a m cap)).setCell ⟨g, 2, none⟩ (.slice am M.length cam)) [g] :=
    (((Keeps.refl w [g]).drewN k).setCell (.inl (by simp)) _).setCell (.inl (by simp)) _
  refine ⟨.slice a m cap, .slice am M.length cam, ⟨?_, h.base, ?_, ?_⟩, K, ?_, ?_⟩
  · have b1 : Blk (w.drewN k) g 109 _ := h.blk
    exact (b1.set_ 1 _).set_ 2 _
  · have := own_keep hf K (fun q hq hm => by simp at hm; subst hm; exact n1 hq)
    rw [take_flat] at this
    rw [List.length_take, Nat.min_eq_left hm]
    exact this
  · have := own_keep hk' K (fun q hq hm => by simp at hm; subst hm; exact n2 hq)
    simpa using this
  · cases a <;> rfl
  · cases am <;> rfl

set_option maxHeartbeats 1000000 in
theorem pop_any {w : World} {B g n m : Nat} {lv mv : Value} {L : List Chain.Fct} {M : List Nat} (h : Stk w B g lv mv n L (M ++ [m])) (hm : m ≤ L.length) (hM : M.length < 65536) (hL : L.length ≤ 8192) :
    Calls Try.prog 36 #[.pointer (some ⟨g, 0, none⟩)] w fun e w' => e = .returned (.bool true) ∧ Popped w B g lv mv n (L.take m) M w' := by
  obtain ⟨ao, cap, rfl, hle, hcm⟩ := own_form h.facts
  have hmk := h.marks
  have hx := own_form hmk
  rw [List.length_append] at hx
  obtain ⟨am, cam, rfl, hlm, hcmm⟩ := hx
  have c := kept (depth_any h)
  have hc := h.blk.cell 1
  have hc2 := h.blk.cell 2
  simp at hc hc2
  have hf1 := h.blk.frozen 1
  have hf2 := h.blk.frozen 2
  have HP := kept (popped_of h hm)
  rw [List.length_append] at hmk
  obtain ⟨gm, cm', hv, hb1, hb2⟩ := hmk.form (by simp)
  cases hv
  have hcell := hmk.cellAt M.length (by simp)
  simp at hcell hlm
  clear hmk h
  have hne : ((M.length : Int) + 1 == 0) = false := by simp; omega
  have hne' : (((M ++ [m]).length : Int) == 0) = false := by simp; omega
  go_enter Try.func36, Try.ntmps36
  go_wp2_with (go_at_call 35; refine c.out.mono ?_; rintro e w' ⟨rfl, rfl⟩)
  go_region
  all_goals
    go_wp2
    go_ret
    exact ⟨rfl, HP.out 1⟩
end Go.Proofs.Ytppidnjhdefbiaa
