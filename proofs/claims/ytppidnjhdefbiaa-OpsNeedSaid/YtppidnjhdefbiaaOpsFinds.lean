/- Package ops: Of (39). -/
import Derived.Test.YtppidnjhdefbiaaOpsAll
namespace Go.Proofs.Ytppidnjhdefbiaa
open Go.RowKit Go.Shelf Go.Proofs
set_option linter.unusedVariables false
attribute [local go_sem] Oper.semAt_some

/-- the word of whatever number -/
def kwordI (x : Int) : ByteArray := if 0 ≤ x ∧ x < 27 then kword x.toNat else ⟨#[]⟩
theorem word_any (x : Int) (w : World) : Calls Try.prog 47 #[.int .i64 x] w fun e w' => e = .returned (.string (kwordI x)) ∧ Keeps w w' [] := by
  by_cases h : 0 ≤ x ∧ x < 27
  · obtain ⟨k, rfl⟩ := Int.eq_ofNat_of_zero_le h.1
    have := word_yes k (by omega) w
    simpa [kwordI, h] using this
  · have := word_no x (by omega) w
    simpa [kwordI, h] using this
theorem all60 (w : World) : Calls Try.prog 60 #[] w fun e w' => e = .returned (.func (.func 92) #[] #[]) ∧ w = w' := by
  go_enter Try.func60, Try.ntmps60
  go_wp2
  go_ret
  exact ⟨rfl, rfl⟩

theorem cell_of_box_l {W : World} {B : Nat} {v : Value} {t : TypeId} (h : W.heap[B]? = some (.cells #[v] t (0, 0))) : W.cell? ⟨B, 0, none⟩ = some v ∧ W.frozen? ⟨B, 0, none⟩ = false := by
  constructor <;> simp [World.cell?, World.frozen?, h]
theorem cell_new_l (W : World) (v : Value) (t : TypeId) : (W.alloc (.cells #[v] t)).cell? ⟨W.heap.size, 0, none⟩ = some v ∧ (W.alloc (.cells #[v] t)).frozen? ⟨W.heap.size, 0, none⟩ = false :=
  cell_of_box_l (World.alloc_heap_new W _)
theorem cell_alloc_l {W : World} {a : Addr} {v : Value} (o : Obj) (h : W.cell? a = some v) : (W.alloc o).cell? a = some v := cell_kept h (World.grownBy_alloc W o none) (fun r e => by cases e)
theorem frozen_alloc_l {W : World} {a : Addr} {v : Value} (o : Obj) (h : W.cell? a = some v) (hf : W.frozen? a = false) : (W.alloc o).frozen? a = false := (frozen_kept h (World.grownBy_alloc W o none) (fun r e => by cases e)).trans hf

theorem Keeps.cellOf {w w' : World} (h : Keeps w w' []) {b i : Nat} {v : Value} (hc : w.cell? ⟨b, i, none⟩ = some v) : w'.cell? ⟨b, i, none⟩ = some v := by
  rcases Nat.lt_or_ge b w.heap.size with h1 | h1
  · have := h.block b h1 (by simp)
    simpa [World.cell?, this] using hc
  · simp [World.cell?, Array.getElem?_eq_none h1] at hc

theorem Keeps.frozenOf {w w' : World} (h : Keeps w w' []) {b i : Nat} {v : Value} (hc : w.cell? ⟨b, i, none⟩ = some v) (hf : w.frozen? ⟨b, i, none⟩ = false) : w'.frozen? ⟨b, i, none⟩ = false := by
  rcases Nat.lt_or_ge b w.heap.size with h1 | h1
  · have := h.block b h1 (by simp)
    simpa [World.frozen?, this] using hf
  · simp [World.cell?, Array.getElem?_eq_none h1] at hc
theorem Keeps.others {w w' : World} (h : Keeps w w' []) : KeepsOthers w w' :=
  ⟨h.size, fun k o hk _ => (h.block k (Array.getElem?_eq_some_iff.1 hk).1 (by simp)).trans hk⟩
theorem opsUpto_inv {p : List Int} {x : Int} {k : Nat} (h : p ++ [x] = opsUpto k) : ∃ j : Nat, k = j + 1 ∧ p = opsUpto j ∧ x = (j : Int) := by
  cases k with
  | zero => simp [opsUpto] at h
  | succ j =>
    rw [opsUpto_succ] at h
    obtain ⟨h1, h2⟩ := List.append_inj' h rfl
    exact ⟨j, rfl, h1, by simpa using h2⟩
theorem cell_set_other {W : World} {a b : Addr} {u v : Value} (hne : b.block ≠ a.block) (h : W.cell? b = some v) : (W.setCell a u).cell? b = some v := by
  rw [← h]
  simp only [World.cell?]
  rw [Below.heap_setCell W a u b.block hne]
theorem mem_opsUpto {j k : Nat} (h : j < k) : (j : Int) ∈ opsUpto k := List.mem_map.2 ⟨j, List.mem_range.2 h, rfl⟩

set_option maxRecDepth 100000 in
set_option maxHeartbeats 4000000 in
theorem of_any (s : ByteArray) (w : World) : Calls Try.prog 39 #[.string s] w fun e w' =>
    ((∃ k : Nat, k < 27 ∧ kwordI k = s ∧ (∀ j : Nat, j < k → kwordI j ≠ s) ∧ e = .returned (.tuple #[.int .i64 k, .bool true])) ∨ ((∀ j : Nat, j < 27 → kwordI j ≠ s) ∧ e = .returned (.tuple #[.int .i64 0, .bool false]))) ∧ Below w.heap.size w w' := by
  refine (callsIn_wide (n := 5)).1 ?_
  refine callsIn_of_wp_marks Try.func39 rfl trivial ?_ rfl
  simp only [Try.ntmps39, List.size_toArray, List.length_cons, List.length_nil, Nat.reduceAdd, Nat.reduceSub, Array.replicate_succ, Array.replicate_zero, List.push_toArray, List.append_toArray, List.nil_append, List.cons_append]
  gi_wp2_with (refine ⟨trivial, ?_⟩; gi_at_call 60; refine (callsIn_wide.2 (all60 _)).mono ?_; rintro e w' ⟨rfl, rfl⟩)
  have c0 := cell_new_l w (.string s) 9
  have c1 := cell_new_l (w.alloc (.cells #[.string s] 9)) (.int .i64 0) 44
  have c2 := cell_new_l ((w.alloc (.cells #[.string s] 9)).alloc (.cells #[.int .i64 0] 44)) (.bool false) 4
  simp only [World.size_alloc] at c1 c2
  have hB0 : Below w.heap.size w (((w.alloc (.cells #[.string s] 9)).alloc (.cells #[.int .i64 0] 44)).alloc (.cells #[.bool false] 4)) := (((Below.refl _ w).alloc (Nat.le_refl _) _).alloc (by simp) _).alloc (by simp; omega) _
  refine wpIn_rangeFunc_ownF rfl (by decide) (gf := 92) (lb := #[]) rfl trivial (enters_of Try.func92 (by kernel_rfl) rfl)
    (all_stops Fence.wide 4 trivial rfl (by decide) w.heap.size _) belowK_t (belowK_b (by simp; omega)) (Below.refl _ _) (fun _ => rfl)
    (fun pre W => ((∀ y ∈ pre, kwordI y ≠ s) ∧ W.cell? ⟨w.heap.size, 0, none⟩ = some (.string s) ∧ W.cell? ⟨w.heap.size + 1, 0, none⟩ = some (.int .i64 0) ∧ W.frozen? ⟨w.heap.size + 1, 0, none⟩ = false ∧ W.cell? ⟨w.heap.size + 1 + 1, 0, none⟩ = some (.bool false) ∧ W.frozen? ⟨w.heap.size + 1 + 1, 0, none⟩ = false) ∧ Below w.heap.size w W)
    (fun c pre W => (c = .ret ∧ ∃ pre0 x, pre = pre0 ++ [x] ∧ kwordI x = s ∧ (∀ y ∈ pre0, kwordI y ≠ s) ∧ W.cell? ⟨w.heap.size + 1, 0, none⟩ = some (.int .i64 x) ∧ W.cell? ⟨w.heap.size + 1 + 1, 0, none⟩ = some (.bool true)) ∧ Below w.heap.size w W)
    (OwnFrom.and (Own.from (fun s A B row hs hg hr => ⟨hs.1, cell_kept hs.2.1 hg hr, cell_kept hs.2.2.1 hg hr, (frozen_kept hs.2.2.1 hg hr).trans hs.2.2.2.1, cell_kept hs.2.2.2.2.1 hg hr, (frozen_kept hs.2.2.2.2.1 hg hr).trans hs.2.2.2.2.2⟩) _) (ownFrom_below (Nat.le_refl _) (by simp; omega)))
    (fun c => OwnFrom.and (Own.from (fun s A B row hs hg hr => by
      obtain ⟨h1, p0, x, h2, h3, h4, h5, h6⟩ := hs
      exact ⟨h1, p0, x, h2, h3, h4, cell_kept h5 hg hr, cell_kept h6 hg hr⟩) _) (ownFrom_below (Nat.le_refl _) (by simp; omega)))
    ⟨⟨by simp, cell_alloc_l _ (cell_alloc_l _ c0.1), cell_alloc_l _ c1.1, frozen_alloc_l _ c1.1 c1.2, c2.1, c2.2⟩, hB0⟩
    (fun x => { tmps := #[.string s, .pointer (some ⟨w.heap.size, 0, none⟩), .pointer (some ⟨w.heap.size + 1, 0, none⟩), .pointer (some ⟨w.heap.size + 1 + 1, 0, none⟩), .int .i64 x, .func (.func 92) #[] #[], .int .i64 x, undef, undef, undef, undef, undef], defers := [] }) ?assign ?body ?done ?stop
  case assign =>
    intro l x W K hK
    gi_wp2
    exact hK
  case body =>
    rintro l pre x W ⟨⟨hp, hc0, hc1, hf1, hc2, hf2⟩, hB⟩ _
    gi_wp2
    gi_region_with (refine ⟨trivial, ?_⟩; gi_at_call 47; refine (CallsIn.inRound l (callsIn_wide.2 (word_any x _))).mono ?_; rintro e w' ⟨rfl, hk⟩; have hc0' := hk.cellOf hc0; have hc1' := hk.cellOf hc1; have hc2' := hk.cellOf hc2; have hf1' := hk.frozenOf hc1 hf1; have hf2' := hk.frozenOf hc2 hf2)
    all_goals gi_wp2
    · rename_i hx
      have hx' : kwordI x = s := by
        cases hkw : kwordI x; cases s; rw [hkw] at hx; simpa [ByteArray.toList_eq] using hx
      have hk2 : Keeps W w' [] := ⟨hk.os, hk.tape, hk.output, hk.size, hk.block⟩
      have hBw := hB.trans (hk2.below (by have := hB.size; omega) (by simp))
      exact ⟨(hk2.others.trans (KeepsOthers.setCell _ _ _)).trans (KeepsOthers.setCell _ _ _), ⟨rfl, pre, x, rfl, hx', hp, cell_set_other (by simp) (World.cell?_setCell_same' _ _ _ (by rw [hc1']; rfl)), World.cell?_setCell_same' _ _ _ (by rw [cell_set_other (by simp) hc2']; rfl)⟩,
        (hBw.setCell (p := ⟨w.heap.size + 1, 0, none⟩) (by simp) _).setCell (p := ⟨w.heap.size + 1 + 1, 0, none⟩) (by simp; omega) _⟩
    · rename_i hx
      have hx' : kwordI x ≠ s := by rintro rfl; simp at hx
      have hk2 : Keeps W w' [] := ⟨hk.os, hk.tape, hk.output, hk.size, hk.block⟩
      have hkb := hk2.below (B := w.heap.size) (by have := hB.size; omega) (by simp)
      exact ⟨hk2.others, hkb, ⟨fun y hy => (List.mem_append.1 hy).elim (hp y) (fun e => by simp at e; subst e; exact hx'), hc0', hc1', hf1', hc2', hf2'⟩, hB.trans hkb⟩
    · rename_i hx
      have hx' : kwordI x = s := by
        cases hkw : kwordI x; cases s; rw [hkw] at hx; simpa [ByteArray.toList_eq] using hx
      have hk2 : Keeps W w' [] := ⟨hk.os, hk.tape, hk.output, hk.size, hk.block⟩
      have hBw := hB.trans (hk2.below (by have := hB.size; omega) (by simp))
      exact ⟨(hk2.others.trans (KeepsOthers.setCell _ _ _)).trans (KeepsOthers.setCell _ _ _), ⟨rfl, pre, x, rfl, hx', hp, cell_set_other (by simp) (World.cell?_setCell_same' _ _ _ (by rw [hc1']; rfl)), World.cell?_setCell_same' _ _ _ (by rw [cell_set_other (by simp) hc2']; rfl)⟩,
        (hBw.setCell (p := ⟨w.heap.size + 1, 0, none⟩) (by simp) _).setCell (p := ⟨w.heap.size + 1 + 1, 0, none⟩) (by simp; omega) _⟩
    · rename_i hx
      have hx' : kwordI x ≠ s := by rintro rfl; simp at hx
      have hk2 : Keeps W w' [] := ⟨hk.os, hk.tape, hk.output, hk.size, hk.block⟩
      have hkb := hk2.below (B := w.heap.size) (by have := hB.size; omega) (by simp)
      exact ⟨hk2.others, hkb, ⟨fun y hy => (List.mem_append.1 hy).elim (hp y) (fun e => by simp at e; subst e; exact hx'), hc0', hc1', hf1', hc2', hf2'⟩, hB.trans hkb⟩
    · rename_i hx
      have hx' : kwordI x = s := by
        cases hkw : kwordI x; cases s; rw [hkw] at hx; simpa [ByteArray.toList_eq] using hx
      have hk2 : Keeps W w' [] := ⟨hk.os, hk.tape, hk.output, hk.size, hk.block⟩
      have hBw := hB.trans (hk2.below (by have := hB.size; omega) (by simp))
      exact ⟨(hk2.others.trans (KeepsOthers.setCell _ _ _)).trans (KeepsOthers.setCell _ _ _), ⟨rfl, pre, x, rfl, hx', hp, cell_set_other (by simp) (World.cell?_setCell_same' _ _ _ (by rw [hc1']; rfl)), World.cell?_setCell_same' _ _ _ (by rw [cell_set_other (by simp) hc2']; rfl)⟩,
        (hBw.setCell (p := ⟨w.heap.size + 1, 0, none⟩) (by simp) _).setCell (p := ⟨w.heap.size + 1 + 1, 0, none⟩) (by simp; omega) _⟩
    · rename_i hx
      have hx' : kwordI x ≠ s := by rintro rfl; simp at hx
      have hk2 : Keeps W w' [] := ⟨hk.os, hk.tape, hk.output, hk.size, hk.block⟩
      have hkb := hk2.below (B := w.heap.size) (by have := hB.size; omega) (by simp)
      exact ⟨hk2.others, hkb, ⟨fun y hy => (List.mem_append.1 hy).elim (hp y) (fun e => by simp at e; subst e; exact hx'), hc0', hc1', hf1', hc2', hf2'⟩, hB.trans hkb⟩
  case done =>
    rintro D ys W hD rfl ⟨⟨hne, _, hc1, hf1, hc2, hf2⟩, hB⟩ hK
    gi_wp2
    have hK' := (KeepsOthers.setCell _ ⟨w.heap.size + 1 + 1, 0, none⟩ (.bool false)).same D _ ((KeepsOthers.setCell W ⟨w.heap.size + 1, 0, none⟩ (.int .i64 0)).same D _ hK rfl) rfl
    refine ⟨by simp, .inl ⟨_, _, rfl, run_takeDeferred hK', ?_⟩⟩
    have hc5 := cell_kept (cell_set_other (by simp) (World.cell?_setCell_same' W ⟨w.heap.size + 1, 0, none⟩ (.int .i64 0) (by rw [hc1]; rfl)) : ((W.setCell ⟨w.heap.size + 1, 0, none⟩ (.int .i64 0)).setCell ⟨w.heap.size + 1 + 1, 0, none⟩ (.bool false)).cell? _ = _) (grownBy_putObj' _ D (.deferred none)) (fun r e => by cases e; exact ⟨_, hK', rfl⟩)
    have hc6 := cell_kept (World.cell?_setCell_same' (W.setCell ⟨w.heap.size + 1, 0, none⟩ (.int .i64 0)) ⟨w.heap.size + 1 + 1, 0, none⟩ (.bool false) (by rw [cell_set_other (by simp) hc2]; rfl)) (grownBy_putObj' _ D (.deferred none)) (fun r e => by cases e; exact ⟨_, hK', rfl⟩)
    refine ⟨.tuple #[.int .i64 0, .bool false], ?_, .inr ⟨fun j hj => hne _ (mem_opsUpto hj), rfl⟩, ((hB.setCell (p := ⟨w.heap.size + 1, 0, none⟩) (by simp) _).setCell (p := ⟨w.heap.size + 1 + 1, 0, none⟩) (by simp; omega) _).trans (belowK_b (w := w) (Nat.le_refl _) _ D _ _ (by simp at hD; omega) hK' rfl rfl)⟩
    simp [results, Try.f39, go_sem, hc5, hc6]
  case stop =>
    rintro D c pre W hD ⟨k, hk, hpre⟩ ⟨⟨rfl, p0, x, rfl, h3, h4, h5, h6⟩, hB⟩ hK
    obtain ⟨j, rfl, rfl, rfl⟩ := opsUpto_inv hpre
    gi_wp2
    refine ⟨by simp, .inl ⟨_, _, rfl, run_takeDeferred hK, ?_⟩⟩
    have hc5 := cell_kept h5 (grownBy_putObj' _ D (.deferred none)) (fun r e => by cases e; exact ⟨_, hK, rfl⟩)
    have hc6 := cell_kept h6 (grownBy_putObj' _ D (.deferred none)) (fun r e => by cases e; exact ⟨_, hK, rfl⟩)
    refine ⟨.tuple #[.int .i64 j, .bool true], ?_, .inl ⟨j, by omega, h3, fun i hi => h4 _ (mem_opsUpto hi), rfl⟩, hB.trans (belowK_b (w := w) (Nat.le_refl _) W D _ _ (by simp at hD; omega) hK rfl rfl)⟩
    simp [results, Try.f39, go_sem, hc5, hc6]
end Go.Proofs.Ytppidnjhdefbiaa
