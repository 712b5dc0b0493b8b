/- Where a block's end leads (graph.Ends); a block's ends, a program's. -/
import Derived.Test.YtjllbchfojonhaaGreatDoorGM
import Derived.Test.YtjllbchfojonhaaGreatDoorGoodLaw
import Derived.Deep.CutBlock
import Derived.Deep.Cut
namespace Go.Proofs.YtjllbchfojonhaaGreatDoor
open Go.RowKit
set_option linter.unusedVariables false
set_option linter.unusedSimpArgs false

def endsM (b : BlockM) : List Int := if b.kind = 0 then [b.to0] else if b.kind = 1 then (if b.to0 = b.to1 then [b.to0] else [b.to0, b.to1]) else []
theorem row_single {w : World} {g : Nat} {t : TypeId} {size : Nat} {cs : List Value} (h : Blk w g t cs.toArray) : Row w size (.slice (some ⟨g, 0, none⟩) 1 1) [cs] := by
 refine ⟨_, 1, rfl, Nat.le_refl _, by simp [maxLen], .inr ⟨g, 0, rfl, h.lt, fun j e he i x hx => ?_⟩⟩
 have hj : j = 0 ∧ cs = e := by
  rcases j with _ | j
  ·exact ⟨rfl, by simpa using he⟩
  ·simp at he
 obtain ⟨rfl, rfl⟩ := hj
 simp only [Nat.zero_mul, Nat.zero_add]
 rw [h.cell i]
 simpa using hx
theorem row_none {w : World} {size : Nat} : Row w size (.slice none 0 0) [] := ⟨none, 0, rfl, Nat.le_refl _, by simp [maxLen], .inl rfl⟩
theorem row_ints1 {w : World} {g : Nat} {t : TypeId} {a : Int} (h : Blk w g t #[.int .i64 a]) : IntsAt w (.slice (some ⟨g, 0, none⟩) 1 1, [a]) := row_single (cs := [.int .i64 a]) h
theorem row_ints2 {w : World} {g : Nat} {t : TypeId} {a b : Int} (h : Blk w g t #[.int .i64 a, .int .i64 b]) : IntsAt w (.slice (some ⟨g, 0, none⟩) 2 2, [a, b]) := by
 refine ⟨_, 2, rfl, Nat.le_refl _, by simp [maxLen], .inr ⟨g, 0, rfl, h.lt, fun j e he i x hx => ?_⟩⟩
 simp only [Nat.mul_one, Nat.zero_add]
 have hi : i = 0 := by
  rcases i with _ | i
  ·rfl
  ·have : e.length = 1 := by
    simp only [List.map_cons, List.map_nil] at he
    rcases j with _ | _ | j <;> simp at he <;> (first | (rw [← he]; rfl) | cases he)
   have := (List.getElem?_eq_some_iff.1 hx).1
   omega
 subst hi
 rw [Nat.add_zero, h.cell j]
 rcases j with _ | _ | j <;> simp [intCells] at he <;> (subst he; simpa using hx)
theorem blk_at (W : World) (t : TypeId) (cs : Array Value) {g : Nat} (hg : W.heap.size = g) : Blk (W.alloc (.cells cs t)) g t cs := by
 subst hg; exact Blk.new W t cs
def EndsRet (w : World) (l : List Int) (e : Ending) (w' : World) : Prop := (∃ q : IntsM, e = .returned q.1 ∧ q.2 = l ∧ IntsAt w' q ∧ ∀ k, q.1.ownBlock = some k → w.heap.size ≤ k) ∧ Keeps w w' []
theorem ends_any (k v a b : Int) (bm : BlockM) (h1 : bm.kind = k) (h2 : bm.to0 = a) (h3 : bm.to1 = b) (w : World) : Calls Tryz.prog 126 #[.agg #[.int .i64 k, .int .i64 v, .int .i64 a, .int .i64 b]] w fun e w' => EndsRet w (endsM bm) e w' := by
 unfold endsM
 rw [h1, h2, h3]
 clear h1 h2 h3
 have hk0 : Keeps w (w.alloc (.cells #[.int .i64 k, .int .i64 v, .int .i64 a, .int .i64 b] 36)) [] := (Keeps.refl _ []).alloc _
 have bb0 := Blk.new w 36 #[.int .i64 k, .int .i64 v, .int .i64 a, .int .i64 b]
 have Bm := kept bb0
 have HK := kept hk0
 obtain ⟨m0, m1, m2, m3⟩ := Bm.out.c4
 simp at m0 m1 m2 m3
 clear hk0 bb0
 go_enter Tryz.func126, Tryz.ntmps126
 by_cases hk0 : k = 0
 ·rw [if_pos hk0]
  subst hk0
  go_wp2
  go_ret
  exact ⟨⟨(.slice (some ⟨w.heap.size + 1, 0, none⟩) 1 1, [a]), rfl, rfl, row_ints1 (blk_at _ 3 _ (size_alloc1 _ _)), fun k hk => by simp [Value.ownBlock] at hk; omega⟩, HK.out.alloc _⟩
 rw [if_neg hk0]
 by_cases hk1 : k = 1
 ·rw [if_pos hk1]
  subst hk1
  by_cases hab : a = b
  ·rw [if_pos hab]
   subst hab
   go_wp2
   go_ret
   exact ⟨⟨(.slice (some ⟨w.heap.size + 1, 0, none⟩) 1 1, [a]), rfl, rfl, row_ints1 (blk_at _ 3 _ (size_alloc1 _ _)), fun k hk => by simp [Value.ownBlock] at hk; omega⟩, HK.out.alloc _⟩
  ·rw [if_neg hab]
   go_wp2
   go_ret
   exact ⟨⟨(.slice (some ⟨w.heap.size + 1, 0, none⟩) 2 2, [a, b]), rfl, rfl, row_ints2 (blk_at _ 3 _ (size_alloc1 _ _)), fun k hk => by simp [Value.ownBlock] at hk; omega⟩, HK.out.alloc _⟩
 rw [if_neg hk1]
 go_wp2
 go_ret
 exact ⟨⟨(.slice none 0 0, []), rfl, rfl, row_none, fun k hk => by cases hk⟩, HK.out⟩
theorem ends_len (b : BlockM) : (endsM b).length ≤ 2 := by
 unfold endsM
 split
 ·simp
 ·split
  ·split <;> simp
  ·simp

def endsN (f : FuncM) (c : Nat) : List Nat := (endsM f.blocks.2[c]!).map Int.toNat
theorem endsN_len (f : FuncM) (c : Nat) : (endsN f c).length ≤ 2 := by unfold endsN; rw [List.length_map]; exact ends_len _
/-- a program whose ends lead to blocks of its own -/
structure EndsOK (f : FuncM) : Prop where
  pos : 0 < f.nb
  nb : f.nb ≤ 1000
  term : ∀ c, c < f.nb → termB f f.blocks.2[c]!.kind f.blocks.2[c]!.var f.blocks.2[c]!.to0 f.blocks.2[c]!.to1 = true
section
variable {f : FuncM}
theorem inB_lt {v : Int} {n : Nat} (h : inB v n = true) : 0 ≤ v ∧ v < (n : Int) := by unfold inB at h; rw [Bool.and_eq_true, decide_eq_true_eq, decide_eq_true_eq] at h; exact h
theorem ends_in (h : EndsOK f) {c : Nat} (hc : c < f.nb) {z : Int} (hz : z ∈ endsM f.blocks.2[c]!) : 0 ≤ z ∧ z < (f.nb : Int) := by
  have ht := h.term c hc
  generalize f.blocks.2[c]! = y at *
  unfold endsM at hz
  unfold termB at ht
  by_cases h0 : y.kind = 0
  · rw [if_pos h0] at hz ht
    simp only [Bool.and_eq_true] at ht
    rw [List.mem_singleton.1 hz]; exact inB_lt ht.1.1
  · rw [if_neg h0] at hz ht
    by_cases h1 : y.kind = 1
    · rw [if_pos h1] at hz ht
      simp only [Bool.and_eq_true] at ht
      split at hz
      · rw [List.mem_singleton.1 hz]; exact inB_lt ht.1.2
      · rcases List.mem_cons.1 hz with e | hz
        · rw [e]; exact inB_lt ht.1.2
        · rw [List.mem_singleton.1 hz]; exact inB_lt ht.2
    · rw [if_neg h1] at hz; cases hz
theorem ends_at (h : EndsOK f) {c k : Nat} (hc : c < f.nb) (hk : k < (endsM f.blocks.2[c]!).length) : ((endsN f c)[k]! : Int) = (endsM f.blocks.2[c]!)[k]! ∧ (endsN f c)[k]! < f.nb := by
  have hz := ends_in h hc (bang_mem hk)
  have e : (endsN f c)[k]! = ((endsM f.blocks.2[c]!)[k]!).toNat := by
    unfold endsN
    rw [getElem!_pos _ k (by simpa using hk), List.getElem_map, getElem!_pos _ k hk]
  rw [e]; omega
theorem ends_lt (h : EndsOK f) {c d : Nat} (hc : c < f.nb) (hd : d ∈ endsN f c) : d < f.nb := by
  obtain ⟨z, hz, rfl⟩ := List.mem_map.1 hd
  have := ends_in h hc hz; omega
theorem ends_succ (h : EndsOK f) {c d : Nat} (hc : c < f.nb) : d ∈ endsN f c ↔ d ∈ succF f c := by
  rw [succF_mem]
  constructor
  · intro hd
    refine ⟨ends_lt h hc hd, ?_⟩
    obtain ⟨z, hz, rfl⟩ := List.mem_map.1 hd
    have h2 := ends_in h hc hz
    rw [Int.toNat_of_nonneg h2.1]
    generalize f.blocks.2[c]! = y at *
    unfold endsM at hz
    unfold leadsM
    by_cases h0 : y.kind = 0
    · rw [if_pos h0] at hz; rw [List.mem_singleton.1 hz, h0]; simp
    · rw [if_neg h0] at hz
      by_cases h1 : y.kind = 1
      · rw [if_pos h1] at hz
        rw [h1]
        split at hz
        · rw [List.mem_singleton.1 hz]; simp
        · rcases List.mem_cons.1 hz with e | hz
          · rw [e]; simp
          · rw [List.mem_singleton.1 hz]; simp
      · rw [if_neg h1] at hz; cases hz
  · rintro ⟨hd, hl⟩
    refine List.mem_map.2 ⟨(d : Int), ?_, by simp⟩
    generalize f.blocks.2[c]! = y at *
    unfold leadsM at hl
    unfold endsM
    simp only [Bool.or_eq_true, Bool.and_eq_true, beq_iff_eq] at hl
    rcases hl with ⟨h0, h1⟩ | ⟨h0, h1⟩
    · rw [if_pos h0, h1]; simp
    · rw [if_neg (by omega), if_pos h0]
      split
      · rename_i e; rcases h1 with h1 | h1
        · rw [h1]; simp
        · rw [e, h1]; simp
      · rcases h1 with h1 | h1
        · rw [h1]; simp
        · rw [h1]; simp
theorem rway_nb (h : EndsOK f) {b : Nat} (hr : RWay (succF f) b) : b < f.nb := by
  cases hr with
  | start => exact h.pos
  | step _ hs => exact (succF_mem.1 hs).1
theorem rway_ends (h : EndsOK f) {b : Nat} : RWay (endsN f) b ↔ RWay (succF f) b := by
  constructor
  · intro hr
    have : b < f.nb ∧ RWay (succF f) b := by
      induction hr with
      | start => exact ⟨h.pos, .start⟩
      | @step a c _ hs ih => exact ⟨ends_lt h ih.1 hs, .step ih.2 ((ends_succ h ih.1).1 hs)⟩
    exact this.2
  · intro hr
    induction hr with
    | start => exact .start
    | @step a c ha hs ih => exact .step ih ((ends_succ h (rway_nb h ha)).2 hs)
end
end Go.Proofs.YtjllbchfojonhaaGreatDoor
