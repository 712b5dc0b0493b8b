/- Rows of the call's own that grow; small words. -/
import Derived.Test.YtjllbchfojonhaaDoorRows1
namespace Go.Proofs.YtjllbchfojonhaaDoor
open Go.RowKit
set_option linter.unusedVariables false
theorem info9 : (Tryd.prog.info? 9).map (fun i => (i.zero, i.size, i.bytes)) = some (some (.string ⟨#[]⟩), 1, 16) := by kernel_rfl
theorem info3 : (Tryd.prog.info? 3).map (fun i => (i.zero, i.size, i.bytes)) = some (some (.int .i64 0), 1, 8) := by kernel_rfl
theorem own_some {w : World} {base n size : Nat} {e : TypeId} {v : Value} {xs : List Value} (h : w.ownsRow base e size v n xs) (hn : 0 < n) : ∃ g cap, v = .slice (some ⟨g, 0, none⟩) n cap ∧ base ≤ g ∧ n ≤ cap ∧ cap ≤ maxLen := by
  rcases h.2 with ⟨_, h0⟩ | ⟨g, cap, cur, h1, h2, h3, h4, h5, _⟩
  · omega
  · exact ⟨g, cap, h1, h2, h4, h5⟩
theorem news_one (W : World) (x : Value) (t : TypeId) : ∀ (j : Nat) (u : Value), [x][j]? = some u → (W.alloc (.cells #[x] t)).cell? ((⟨W.heap.size, 0, none⟩ : Addr).add j) = some u := by
  intro j u h
  cases j with
  | zero =>
    have := (Blk.new W t #[x]).cell 0
    rw [add_plain]
    rw [this]
    exact h
  | succ j => simp at h
theorem news_at (W : World) (x : Value) (t : TypeId) (g : Nat) (hg : W.heap.size = g) : ∀ (j : Nat) (u : Value), [x][j]? = some u → (W.alloc (.cells #[x] t)).cell? ((⟨g, 0, none⟩ : Addr).add j) = some u := by
  subst hg; exact news_one W x t
theorem size_alloc1 (w : World) (o : Obj) : (w.alloc o).heap.size = w.heap.size + 1 := by show (Array.push _ _).size = _; rw [Array.size_push]
theorem ones_one {x : Value} (h : x.oneCell' = true) : ∀ u ∈ [x], u.oneCell' = true := fun u hu => by
  rw [List.mem_singleton.1 hu]; exact h
/-- behind 'append(v, x)', where v's block is new -/
theorem keeps_append {w0 W W3 : World} {base size n : Nat} {e t : TypeId} {v x : Value} {xs : List Value} (hg : (W.alloc (.cells #[x] t)).grownBy W3 v.ownBlock) (h : W.ownsRow base e size v n xs) (hk : Keeps w0 W []) (hb : w0.heap.size ≤ base) : Keeps w0 W3 [] :=
  (hk.alloc _).grown hg (fun k hk => .inr (by have := (own_lt h hk).2; omega))
theorem blk_append {W W3 : World} {g : Nat} {t t' : TypeId} {v x : Value} {cs : Array Value} (hg : (W.alloc (.cells #[x] t)).grownBy W3 v.ownBlock) (hb : Blk W g t' cs) (hn : ∀ k, v.ownBlock = some k → k ≠ g) : Blk W3 g t' cs := by
  have hb2 : Blk (W.alloc (.cells #[x] t)) g t' cs := hb.keep ((Keeps.refl W []).alloc _) (by simp)
  exact (hg.block g hb2.lt (fun e => hn g e.symm rfl)).trans hb2
theorem own_apart_ {w : World} {base n size g : Nat} {e : TypeId} {v : Value} {xs : List Value} (h : w.ownsRow base e size v n xs) (hg : w.heap.size ≤ g) : ∀ k, v.ownBlock = some k → k ≠ g := fun k hk => by
  have := (own_lt h hk).1
  omega
end Go.Proofs.YtjllbchfojonhaaDoor
