/- Package facts: what memory holds of a stack of facts; the contracts of has, New, Len, Depth, Add, Push, Pop. -/
import Derived.Test.YtppidnjhdefbiaaArith
import Derived.Test.YtppidnjhdefbiaaChain
import Derived.Maps.AppendAt
import Derived.Deep.RegionLaw
import Derived.Laws.Rows
import Derived.Handy
namespace Go.Proofs.Ytppidnjhdefbiaa
open Go.RowKit

/-- from w to w' blocks of S may have turned, and new ones may have come -/
structure Keeps (w w' : World) (S : List Nat) : Prop where
  os : w'.os = w.os
  tape : w'.tape = w.tape
  output : w'.output = w.output
  size : w.heap.size ≤ w'.heap.size
  block : ∀ k, k < w.heap.size → k ∉ S → w'.heap[k]? = w.heap[k]?

theorem Keeps.refl (w : World) (S : List Nat) : Keeps w w S := ⟨rfl, rfl, rfl, Nat.le_refl _, fun _ _ _ => rfl⟩
theorem Keeps.below {w w' : World} {S : List Nat} {B : Nat} (h : Keeps w w' S) (hB : B ≤ w.heap.size) (hS : ∀ k ∈ S, B ≤ k) : Below B w w' :=
  ⟨h.os, h.tape, h.output, h.size, fun k hk => h.block k (by omega) (fun hm => by have := hS k hm; omega)⟩
theorem Keeps.trans {a b c : World} {S T : List Nat} (h : Keeps a b S) (k : Keeps b c T) : Keeps a c (S ++ T) :=
  ⟨k.os.trans h.os, k.tape.trans h.tape, k.output.trans h.output, Nat.le_trans h.size k.size, fun i hi hn => by
    simp only [List.mem_append, not_or] at hn
    exact (k.block i (Nat.lt_of_lt_of_le hi h.size) hn.2).trans (h.block i hi hn.1)⟩
theorem Keeps.mono {w w' : World} {S T : List Nat} (h : Keeps w w' S) (hs : ∀ k ∈ S, k ∈ T ∨ w.heap.size ≤ k) : Keeps w w' T :=
  ⟨h.os, h.tape, h.output, h.size, fun k hk hn => h.block k hk (fun hm => by
    rcases hs k hm with h1 | h1
    · exact hn h1
    · omega)⟩
theorem Keeps.drew {w w' : World} {S : List Nat} (h : Keeps w w' S) : Keeps w w'.drew S := ⟨h.os, h.tape, h.output, h.size, h.block⟩
theorem Keeps.drewN {w w' : World} {S : List Nat} (h : Keeps w w' S) (n : Nat) : Keeps w (w'.drewN n) S := ⟨h.os, h.tape, h.output, h.size, h.block⟩
theorem Keeps.alloc {w w' : World} {S : List Nat} (h : Keeps w w' S) (o : Obj) : Keeps w (w'.alloc o) S :=
  ⟨h.os, h.tape, h.output, Nat.le_trans h.size (by simp), fun i hi hn => (Below.heap_alloc w' o i (Nat.lt_of_lt_of_le hi h.size)).trans (h.block i hi hn)⟩
theorem Keeps.setCell {w w' : World} {S : List Nat} (h : Keeps w w' S) {p : Addr} (hp : p.block ∈ S ∨ w.heap.size ≤ p.block) (u : Value) : Keeps w (w'.setCell p u) S :=
  ⟨h.os, h.tape, h.output, by simpa [World.setCell] using h.size, fun i hi hn => (Below.heap_setCell w' p u i (by
    rintro rfl
    rcases hp with hp | hp
    · exact hn hp
    · omega)).trans (h.block i hi hn)⟩
theorem Keeps.grown {w w' w'' : World} {S : List Nat} {row : Option Nat} (h : Keeps w w' S) (hg : w'.grownBy w'' row) (hr : ∀ k, row = some k → k ∈ S ∨ w.heap.size ≤ k) : Keeps w w'' S :=
  ⟨hg.os.trans h.os, hg.tape.trans h.tape, hg.output.trans h.output, Nat.le_trans h.size hg.size, fun i hi hn => (hg.block i (Nat.lt_of_lt_of_le hi h.size) (by
    intro e
    rcases hr i e.symm with h1 | h1
    · exact hn h1
    · omega)).trans (h.block i hi hn)⟩

/-- block g is just these cells, none frozen -/
def Blk (w : World) (g : Nat) (t : TypeId) (cs : Array Value) : Prop := w.heap[g]? = some (.cells cs t (0, 0))
section
variable {w w' : World} {g : Nat} {t : TypeId} {cs : Array Value}
theorem Blk.lt (h : Blk w g t cs) : g < w.heap.size := by
  rcases Nat.lt_or_ge g w.heap.size with h1 | h1
  · exact h1
  · unfold Blk at h; rw [Array.getElem?_eq_none h1] at h; cases h
theorem Blk.cell (h : Blk w g t cs) (i : Nat) : w.cell? ⟨g, i, none⟩ = cs[i]? := cell_of_row w g i cs t (0, 0) h
theorem Blk.frozen (h : Blk w g t cs) (i : Nat) : w.frozen? ⟨g, i, none⟩ = false := by
  unfold Blk at h
  simp [World.frozen?, h]
theorem Blk.new (w : World) (t : TypeId) (cs : Array Value) : Blk (w.alloc (.cells cs t)) w.heap.size t cs := heap_alloc_new w _
theorem Blk.keep {S : List Nat} (h : Blk w g t cs) (hk : Keeps w w' S) (hg : g ∉ S) : Blk w' g t cs := (hk.block g h.lt hg).trans h
theorem Blk.set_ (h : Blk w g t cs) (i : Nat) (u : Value) : Blk (w.setCell ⟨g, i, none⟩ u) g t (cs.setIfInBounds i u) := by
  unfold Blk at h ⊢
  simp [World.setCell, Array.getElem?_modify, h]
end

theorem own_keep {w w' : World} {S : List Nat} {base : Nat} {e : TypeId} {size n : Nat} {v : Value} {xs : List Value} (h : w.ownsRow base e size v n xs) (hk : Keeps w w' S) (hs : ∀ k, v.ownBlock = some k → k ∉ S) : w'.ownsRow base e size v n xs := by
  obtain ⟨h1, h2⟩ := h
  refine ⟨h1, ?_⟩
  rcases h2 with h2 | ⟨g, cap, cur, hv, hg, hh, r⟩
  · exact .inl h2
  · refine .inr ⟨g, cap, cur, hv, hg, ?_, r⟩
    have : g ∉ S := hs g (by rw [hv]; rfl)
    exact (hk.block g (Blk.lt hh) this).trans hh
theorem own_lt {w : World} {base : Nat} {e : TypeId} {size n k : Nat} {v : Value} {xs : List Value} (h : w.ownsRow base e size v n xs) (hk : v.ownBlock = some k) : k < w.heap.size ∧ base ≤ k := by
  rcases h.2 with ⟨rfl, _⟩ | ⟨g, cap, cur, rfl, hg, hh, _⟩
  · cases hk
  · simp [Value.ownBlock] at hk
    subst hk
    exact ⟨Blk.lt hh, hg⟩
theorem own_ne {w : World} {base g : Nat} {e t : TypeId} {size n : Nat} {v : Value} {xs : List Value} {cs : Array Value} (h : w.ownsRow base e size v n xs) (hg : Blk w g t cs) (hne : e ≠ t) : v.ownBlock ≠ some g := by
  rcases h.2 with ⟨rfl, _⟩ | ⟨g', cap, cur, rfl, _, hh, _⟩
  · simp [Value.ownBlock]
  · intro he
    simp [Value.ownBlock] at he
    subst he
    unfold Blk at hg
    rw [hh] at hg
    injection hg with hg
    injection hg with _ ht
    exact hne ht
theorem own_apart {w : World} {base base' : Nat} {e e' : TypeId} {size size' n n' k : Nat} {v v' : Value} {xs xs' : List Value} (h : w.ownsRow base e size v n xs) (h' : w.ownsRow base' e' size' v' n' xs') (hne : e ≠ e')
    (hk : v.ownBlock = some k) : v'.ownBlock ≠ some k := by
  rcases h.2 with ⟨rfl, _⟩ | ⟨g, cap, cur, rfl, _, hh, _⟩
  · cases hk
  · simp [Value.ownBlock] at hk
    subst hk
    exact own_ne h' hh (Ne.symm hne)
/-- the value of an owned row is a slice, and what its length is -/
theorem own_form {w : World} {base : Nat} {e : TypeId} {size n : Nat} {v : Value} {xs : List Value} (h : w.ownsRow base e size v n xs) : ∃ a cap, v = .slice a n cap ∧ n ≤ cap ∧ cap ≤ maxLen := by
  rcases h.2 with ⟨rfl, rfl⟩ | ⟨g, cap, cur, rfl, _, _, h1, h2, _⟩
  · exact ⟨none, 0, rfl, by omega, by simp [maxLen]⟩
  · exact ⟨_, cap, rfl, h1, h2⟩

def fctCells (f : Chain.Fct) : List Value := [.int .i64 f.a, .int .i64 f.b, .int .i64 f.c]

/-- block g is a stack of n nodes, with these facts and marks -/
structure Stk (w : World) (B g : Nat) (lv mv : Value) (n : Nat) (L : List Chain.Fct) (M : List Nat) : Prop where
  blk : Blk w g 109 #[.int .i64 n, lv, mv]
  base : B ≤ g
  facts : w.ownsRow B 112 3 lv L.length (L.flatMap fctCells)
  marks : w.ownsRow B 3 1 mv M.length (M.map fun (m : Nat) => .int .i64 m)

def hasB (a : Int) (n : Nat) : Bool := decide (0 ≤ a ∧ a < n)

theorem has_yes (w : World) (g n : Nat) (lv mv : Value) (a : Int) (hb : Blk w g 109 #[.int .i64 n, lv, mv]) (h : hasB a n = true) :
    Calls Try.prog 85 #[.pointer (some ⟨g, 0, none⟩), .int .i64 a] w fun e w' => e = .returned (.bool true) ∧ w = w' := by
  simp [hasB] at h
  obtain ⟨h1, h2⟩ := h
  have hc : w.cell? ⟨g, 0, none⟩ = some (.int .i64 n) := hb.cell 0
  clear hb
  go_enter Try.func85, Try.ntmps85
  go_wp2
  go_ret
  exact ⟨rfl, rfl⟩
theorem has_no (w : World) (g n : Nat) (lv mv : Value) (a : Int) (hb : Blk w g 109 #[.int .i64 n, lv, mv]) (h : hasB a n = false) :
    Calls Try.prog 85 #[.pointer (some ⟨g, 0, none⟩), .int .i64 a] w fun e w' => e = .returned (.bool false) ∧ w = w' := by
  simp [hasB] at h
  have hc : w.cell? ⟨g, 0, none⟩ = some (.int .i64 n) := hb.cell 0
  clear hb
  by_cases h1 : 0 ≤ a
  · have h2 := h h1
    clear h
    go_enter Try.func85, Try.ntmps85
    go_wp2
    go_ret
    exact ⟨ret_bool (by simp; omega), rfl⟩
  · clear h
    go_enter Try.func85, Try.ntmps85
    go_wp2
    go_ret
    exact ⟨rfl, rfl⟩
theorem has_nil (w : World) (a : Int) :
    Calls Try.prog 85 #[.pointer none, .int .i64 a] w fun e w' => e = .returned (.bool false) ∧ w = w' := by
  go_enter Try.func85, Try.ntmps85
  go_wp2
  go_ret
  exact ⟨rfl, rfl⟩
theorem len_any {w : World} {B g n : Nat} {lv mv : Value} {L : List Chain.Fct} {M : List Nat} (h : Stk w B g lv mv n L M) :
    Calls Try.prog 37 #[.pointer (some ⟨g, 0, none⟩)] w fun e w' => e = .returned (.int .i64 (L.length : Int)) ∧ w = w' := by
  obtain ⟨a, cap, rfl, hl, hm⟩ := own_form h.facts
  have hc : w.cell? ⟨g, 1, none⟩ = some (.slice a L.length cap) := h.blk.cell 1
  clear h
  go_enter Try.func37, Try.ntmps37
  go_wp2
  go_ret
  exact ⟨rfl, rfl⟩
theorem len_nil (w : World) : Calls Try.prog 37 #[.pointer none] w fun e w' => e = .returned (.int .i64 0) ∧ w = w' := by
  go_enter Try.func37, Try.ntmps37
  go_wp2
  go_ret
  exact ⟨rfl, rfl⟩
theorem depth_any {w : World} {B g n : Nat} {lv mv : Value} {L : List Chain.Fct} {M : List Nat} (h : Stk w B g lv mv n L M) :
    Calls Try.prog 35 #[.pointer (some ⟨g, 0, none⟩)] w fun e w' => e = .returned (.int .i64 (M.length : Int)) ∧ w = w' := by
  obtain ⟨a, cap, rfl, hl, hm⟩ := own_form h.marks
  have hc : w.cell? ⟨g, 2, none⟩ = some (.slice a M.length cap) := h.blk.cell 2
  clear h
  go_enter Try.func35, Try.ntmps35
  go_wp2
  go_ret
  exact ⟨rfl, rfl⟩
theorem depth_nil (w : World) : Calls Try.prog 35 #[.pointer none] w fun e w' => e = .returned (.int .i64 0) ∧ w = w' := by
  go_enter Try.func35, Try.ntmps35
  go_wp2
  go_ret
  exact ⟨rfl, rfl⟩

theorem new_yes (w : World) (n : Nat) (hn : n ≤ 1024) :
    Calls Try.prog 31 #[.int .i64 n] w fun e w' => e = .returned (.pointer (some ⟨w.heap.size, 0, none⟩)) ∧ w' = w.alloc (.cells #[.int .i64 n, .slice none 0 0, .slice none 0 0] 109) := by
  go_enter Try.func31, Try.ntmps31
  go_wp2
  go_ret
  exact ⟨rfl, rfl⟩
theorem new_no (w : World) (n : Int) (hn : n < 0 ∨ 1024 < n) :
    Calls Try.prog 31 #[.int .i64 n] w fun e w' => e = .returned (.pointer none) ∧ w = w' := by
  rcases hn with h1 | h1
  · go_enter Try.func31, Try.ntmps31
    go_wp2
    go_ret
    exact ⟨rfl, rfl⟩
  · have h2 : ¬ n < 0 := by omega
    go_enter Try.func31, Try.ntmps31
    go_wp2
    go_ret
    exact ⟨rfl, rfl⟩
theorem stk_new (w : World) (B n : Nat) (hB : B ≤ w.heap.size) : Stk (w.alloc (.cells #[.int .i64 n, .slice none 0 0, .slice none 0 0] 109)) B w.heap.size (.slice none 0 0) (.slice none 0 0) n [] [] :=
  ⟨Blk.new _ _ _, hB, ⟨rfl, .inl ⟨rfl, rfl⟩⟩, ⟨rfl, .inl ⟨rfl, rfl⟩⟩⟩

theorem Stk.keep {w w' : World} {B g n : Nat} {lv mv : Value} {L : List Chain.Fct} {M : List Nat} {S : List Nat} (h : Stk w B g lv mv n L M) (hk : Keeps w w' S) (h1 : g ∉ S) (h2 : ∀ k, lv.ownBlock = some k → k ∉ S) (h3 : ∀ k, mv.ownBlock = some k → k ∉ S) : Stk w' B g lv mv n L M :=
  ⟨h.blk.keep hk h1, h.base, own_keep h.facts hk h2, own_keep h.marks hk h3⟩

/-- what an addition leaves -/
def Added (w : World) (B g : Nat) (lv mv : Value) (n : Nat) (L : List Chain.Fct) (M : List Nat) (w' : World) : Prop :=
  ∃ lv', Stk w' B g lv' mv n L M ∧ Keeps w w' (g :: lv.ownBlock.toList) ∧ ∀ k, lv'.ownBlock = some k → lv.ownBlock = some k ∨ w.heap.size ≤ k

theorem added_of {w w1 : World} {B g n : Nat} {lv mv v' : Value} {L : List Chain.Fct} {M : List Nat} (h : Stk w B g lv mv n L M) (f : Chain.Fct) (o : Obj)
    (hown : w1.ownsRow B 112 3 v' (L.length + 1) (L.flatMap fctCells ++ fctCells f)) (hg : (w.alloc o).grownBy w1 lv.ownBlock) (hat : v'.ownBlock = lv.ownBlock ∨ v'.ownBlock = some (w.heap.size + 1)) :
    Added w B g lv mv n (L ++ [f]) M (w1.setCell ⟨g, 1, none⟩ v') := by
  have k1 : Keeps w w1 lv.ownBlock.toList := ((Keeps.refl w _).alloc o).grown hg (fun k hk => .inl (by simp [hk]))
  have hgl : g ∉ lv.ownBlock.toList := by
    have := own_ne h.facts h.blk (by decide)
    simpa using this
  have b1 := h.blk.keep k1 hgl
  have m1 : w1.ownsRow B 3 1 mv M.length (M.map fun (m : Nat) => .int .i64 m) := own_keep h.marks k1 (fun k hk hm => by
    have := own_apart h.marks h.facts (by decide) hk
    simp at hm
    exact this hm)
  have hvg : v'.ownBlock ≠ some g := own_ne hown b1 (by decide)
  have hmg : mv.ownBlock ≠ some g := own_ne m1 b1 (by decide)
  have k2 : Keeps w1 (w1.setCell ⟨g, 1, none⟩ v') [g] := (Keeps.refl w1 _).setCell (.inl (by simp)) _
  refine ⟨v', ⟨?_, h.base, ?_, ?_⟩, (k1.trans k2).mono (fun k hk => .inl ?_), ?_⟩
  · exact b1.set_ 1 v'
  · have := own_keep hown k2 (fun k hk hm => hvg (by simp at hm; subst hm; exact hk))
    simpa using this
  · exact own_keep m1 k2 (fun k hk hm => hmg (by simp at hm; subst hm; exact hk))
  · simp at hk ⊢
    rcases hk with hk | hk
    · exact .inr hk
    · exact .inl hk
  · intro k hk
    rcases hat with e | e
    · exact .inl (e ▸ hk)
    · rw [e] at hk; cases hk; exact .inr (by omega)

theorem info112 : (Try.prog.info? 112).map (fun i => (i.zero, i.size, i.bytes)) = some (some (.agg #[.int .i64 0, .int .i64 0, .int .i64 0]), 3, 24) := by kernel_rfl
theorem info3 : (Try.prog.info? 3).map (fun i => (i.zero, i.size, i.bytes)) = some (some (.int .i64 0), 1, 8) := by kernel_rfl

end Go.Proofs.Ytppidnjhdefbiaa
