/- The law FactsPlay: a stack of facts beside the law's own list of facts and of marks. -/
import Derived.Test.YtppidnjhdefbiaaFactsTwo
namespace Go.Proofs.Ytppidnjhdefbiaa
open Go.RowKit
set_option linter.unusedVariables false

/-- a stack (L1, M1), a list of facts v8 (L2) and a list of marks v9 (M2), which share nothing -/
structure PlayS (w wr : World) (g n : Nat) (L1 : List Chain.Fct) (M1 : List Nat) (L2 : List Chain.Fct) (M2 : List Nat) (v8 v9 lv mv : Value) : Prop where
  keeps : Keeps w wr []
  s : Stk wr w.heap.size g lv mv n L1 M1
  f : wr.ownsRow w.heap.size 36 3 v8 L2.length (L2.flatMap fctCells)
  m : wr.ownsRow w.heap.size 3 1 v9 M2.length (M2.map fun (m : Nat) => .int .i64 m)
  ap : ∀ i, mv.ownBlock = some i → v9.ownBlock ≠ some i

section
variable {w wr w' : World} {g n : Nat} {L1 L1' L2 L2' : List Chain.Fct} {M1 M1' M2 M2' : List Nat} {v8 v9 lv mv lv' mv' v8' v9' : Value}

theorem PlayS.calm (h : PlayS w wr g n L1 M1 L2 M2 v8 v9 lv mv) (k : Keeps wr w' []) : PlayS w w' g n L1 M1 L2 M2 v8 v9 lv mv :=
  ⟨keep_own h.keeps k (by simp), h.s.keep k (by simp) (by simp) (by simp), own_keep h.f k (by simp), own_keep h.m k (by simp), h.ap⟩

theorem PlayS.op (h : PlayS w wr g n L1 M1 L2 M2 v8 v9 lv mv) {S : List Nat} (hs : Stk w' w.heap.size g lv' mv' n L1' M1') (k : Keeps wr w' S) (hS : ∀ i ∈ S, i = g ∨ lv.ownBlock = some i ∨ mv.ownBlock = some i)
    (hm : ∀ i, mv'.ownBlock = some i → mv.ownBlock = some i ∨ wr.heap.size ≤ i) : PlayS w w' g n L1' M1' L2 M2 v8 v9 lv' mv' := by
  refine ⟨keep_own h.keeps k (fun i hi => ?_), hs, own_keep h.f k (fun i h2 hi => ?_), own_keep h.m k (fun i h2 hi => ?_), fun i h1 h2 => ?_⟩
  · rcases hS i hi with h1 | h1 | h1
    · subst h1; exact h.s.base
    · exact (own_lt h.s.facts h1).2
    · exact (own_lt h.s.marks h1).2
  · rcases hS i hi with h1 | h1 | h1
    · subst h1; exact own_ne h.f h.s.blk (by decide) h2
    · exact own_apart h.s.facts h.f (by decide) h1 h2
    · exact own_apart h.s.marks h.f (by decide) h1 h2
  · rcases hS i hi with h1 | h1 | h1
    · subst h1; exact own_ne h.m h.s.blk (by decide) h2
    · exact own_apart h.s.facts h.m (by decide) h1 h2
    · exact h.ap i h1 h2
  · rcases hm i h1 with h3 | h3
    · exact h.ap i h3 h2
    · have := (own_lt h.m h2).1; omega

theorem PlayS.add (h : PlayS w wr g n L1 M1 L2 M2 v8 v9 lv mv) (ha : Added wr w.heap.size g lv mv n L1' M1 w') : ∃ lv', PlayS w w' g n L1' M1 L2 M2 v8 v9 lv' mv := by
  obtain ⟨lv', h1, h2, h3⟩ := ha
  refine ⟨lv', h.op h1 h2 (fun i hi => ?_) (fun i hi => .inl hi)⟩
  simp at hi
  rcases hi with hi | hi
  · exact .inl hi
  · exact .inr (.inl hi)
theorem PlayS.push (h : PlayS w wr g n L1 M1 L2 M2 v8 v9 lv mv) (ha : Pushed wr w.heap.size g lv mv n L1 M1' w') : ∃ mv', PlayS w w' g n L1 M1' L2 M2 v8 v9 lv mv' := by
  obtain ⟨mv', h1, h2, h3⟩ := ha
  refine ⟨mv', h.op h1 h2 (fun i hi => ?_) h3⟩
  simp at hi
  rcases hi with hi | hi
  · exact .inl hi
  · exact .inr (.inr hi)
theorem PlayS.pop (h : PlayS w wr g n L1 M1 L2 M2 v8 v9 lv mv) (ha : Popped wr w.heap.size g lv mv n L1' M1' w') : ∃ lv' mv', PlayS w w' g n L1' M1' L2 M2 v8 v9 lv' mv' := by
  obtain ⟨lv', mv', h1, h2, h3, h4⟩ := ha
  refine ⟨lv', mv', h.op h1 h2 (fun i hi => ?_) (fun i hi => .inl (h4 ▸ hi))⟩
  simp at hi
  exact .inl hi

/-- the law's own list of marks grows, or is made anew -/
theorem PlayS.marks {W w1 : World} (h : PlayS w wr g n L1 M1 L2 M2 v8 v9 lv mv) (k : Keeps wr W []) (hown : w1.ownsRow w.heap.size 3 1 v9' M2'.length (M2'.map fun (m : Nat) => .int .i64 m)) (hg : W.grownBy w1 v9.ownBlock)
    (hat : ∀ i, v9'.ownBlock = some i → v9.ownBlock = some i ∨ wr.heap.size ≤ i) : PlayS w w1 g n L1 M1 L2 M2' v8 v9' lv mv := by
  have k1 : Keeps wr w1 v9.ownBlock.toList := (k.mono (fun _ h => by cases h)).grown hg (fun i hi => .inl (by simp [hi]))
  refine ⟨keep_own h.keeps k1 (fun i hi => ?_), h.s.keep k1 ?_ (fun i h2 hi => ?_) (fun i h2 hi => ?_), own_keep h.f k1 (fun i h2 hi => ?_), hown, fun i h1 h2 => ?_⟩
  · simp at hi; exact (own_lt h.m hi).2
  · intro hi; simp at hi; exact own_ne h.m h.s.blk (by decide) hi
  · simp at hi; exact own_apart h.m h.s.facts (by decide) hi h2
  · simp at hi; exact h.ap i h2 hi
  · simp at hi; exact own_apart h.m h.f (by decide) hi h2
  · rcases hat i h2 with h3 | h3
    · exact h.ap i h1 h3
    · have := (own_lt h.s.marks h1).1; omega

/-- the law's own list of facts grows, or is made anew: from the row x, which is nobody else's -/
theorem PlayS.facts {W w1 : World} {x : Value} (h : PlayS w wr g n L1 M1 L2 M2 v8 v9 lv mv) (k : Keeps wr W []) (hown : w1.ownsRow w.heap.size 36 3 v8' L2'.length (L2'.flatMap fctCells)) (hg : W.grownBy w1 x.ownBlock)
    (hx : ∀ i, x.ownBlock = some i → v8.ownBlock = some i ∨ wr.heap.size ≤ i) : PlayS w w1 g n L1 M1 L2' M2 v8' v9 lv mv := by
  have k1 : Keeps wr w1 v8.ownBlock.toList := (k.mono (fun _ h => by cases h)).grown hg (fun i hi => by
    rcases hx i hi with h1 | h1
    · exact .inl (by simp [h1])
    · exact .inr h1)
  refine ⟨keep_own h.keeps k1 (fun i hi => ?_), h.s.keep k1 ?_ (fun i h2 hi => ?_) (fun i h2 hi => ?_), hown, own_keep h.m k1 (fun i h2 hi => ?_), h.ap⟩
  · simp at hi; exact (own_lt h.f hi).2
  · intro hi; simp at hi; exact own_ne h.f h.s.blk (by decide) hi
  · simp at hi; exact own_apart h.f h.s.facts (by decide) hi h2
  · simp at hi; exact own_apart h.f h.s.marks (by decide) hi h2
  · simp at hi; exact own_apart h.f h.m (by decide) hi h2

/-- the loop's invariant -/
def PlayInv (w wr : World) (g n : Nat) (L : List Chain.Fct) (M : List Nat) (v8 v9 : Value) (i : Nat) : Prop :=
  (∃ lv mv, PlayS w wr g n L M L M v8 v9 lv mv) ∧ Fits L n ∧ M.Pairwise (· ≤ ·) ∧ (∀ m ∈ M, m ≤ L.length) ∧ L.length ≤ i ∧ M.length ≤ i
end

theorem play_start {w w1 : World} (k : Keeps w w1 []) (n : Nat) : PlayInv w (w1.alloc (.cells #[.int .i64 n, .slice none 0 0, .slice none 0 0] 109)) w1.heap.size n [] [] (.slice none 0 0) (.slice none 0 0) 0 :=
  ⟨⟨.slice none 0 0, .slice none 0 0, ⟨k.alloc _, stk_new w1 _ n k.size, ⟨rfl, .inl ⟨rfl, rfl⟩⟩, ⟨rfl, .inl ⟨rfl, rfl⟩⟩, (by intro i hi; cases hi)⟩⟩, (by intro f hf; cases hf), List.Pairwise.nil, (by intro m hm; cases hm), Nat.le_refl _, Nat.le_refl _⟩

theorem Sees4.keep {w w' : World} {a : Option Addr} {len : Nat} {z0 z1 z2 z3 : Nat → Int} (h : Sees4 w a len z0 z1 z2 z3) (hk : Keeps w w' []) : Sees4 w' a len z0 z1 z2 z3 := by
  rcases h with h | ⟨b, off, ha, hb, hc⟩
  · exact .inl h
  · refine .inr ⟨b, off, ha, Nat.lt_of_lt_of_le hb hk.size, fun i hi => ?_⟩
    have hB := hk.block b hb (by simp)
    exact ⟨(World.cell?_of_block (a := ⟨b, _, none⟩) hB).trans (hc i hi).1, (World.cell?_of_block (a := ⟨b, _, none⟩) hB).trans (hc i hi).2.1, (World.cell?_of_block (a := ⟨b, _, none⟩) hB).trans (hc i hi).2.2.1, (World.cell?_of_block (a := ⟨b, _, none⟩) hB).trans (hc i hi).2.2.2⟩

theorem sorted_snoc {M : List Nat} {k : Nat} (h : M.Pairwise (· ≤ ·)) (hk : ∀ m ∈ M, m ≤ k) : (M ++ [k]).Pairwise (· ≤ ·) := by
  rw [List.pairwise_append]
  exact ⟨h, List.pairwise_singleton _ _, fun a ha b hb => by simp at hb; subst hb; exact hk a ha⟩
theorem sorted_cut {M : List Nat} {k : Nat} (h : (M ++ [k]).Pairwise (· ≤ ·)) : M.Pairwise (· ≤ ·) ∧ ∀ m ∈ M, m ≤ k := by
  rw [List.pairwise_append] at h
  exact ⟨h.1, fun m hm => h.2.2 m hm k (by simp)⟩
theorem fits_take {L : List Chain.Fct} {n : Nat} (h : Fits L n) (m : Nat) : Fits (L.take m) n := fun f hf => h f (List.mem_of_mem_take hf)
theorem fits_snoc {L : List Chain.Fct} {n a b : Nat} {c : Int} (h : Fits L n) (ha : a < n) (hb : b < n) (h1 : -1152921504606846976 ≤ c) (h2 : c ≤ 1152921504606846976) : Fits (L ++ [⟨a, b, c⟩]) n := by
  intro f hf
  simp at hf
  rcases hf with hf | rfl
  · exact h f hf
  · exact ⟨ha, hb, by first | exact ⟨h1, h2⟩ | (simp; omega)⟩
end Go.Proofs.Ytppidnjhdefbiaa
