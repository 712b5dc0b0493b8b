/- Package interval: the law IntervalSets: the contracts in whole numbers. -/
import Derived.Test.YtppidnjhdefbiaaIvLives
import Derived.Deep.RegionHeld3
import Derived.Deep.Cut
import Derived.Deep.CutRange
namespace Go.Proofs.Ytppidnjhdefbiaa
open Go.RowKit
set_option linter.unusedVariables false
set_option linter.unusedSimpArgs false

theorem none66 (w : World) : Calls Try.prog 66 #[] w fun e w' => e = .returned (.agg #[.int .i64 1, .int .i64 0]) ∧ Keeps w w' [] := by
  go_enter Try.func66, Try.ntmps66
  go_wp2
  refine bodyPost_ret (v := .agg #[.int .i64 1, .int .i64 0]) (by simp [results, Try.results66, go_sem]) rfl ⟨rfl, ?_⟩
  first | exact Keeps.refl w [] | exact (Keeps.refl w []).alloc _
theorem all71 (w : World) : Calls Try.prog 71 #[] w fun e w' => e = .returned (.agg #[.int .i64 Iv.MIN, .int .i64 Iv.MAX]) ∧ Keeps w w' [] := by
  go_enter Try.func71, Try.ntmps71
  go_wp2
  refine bodyPost_ret (v := .agg #[.int .i64 Iv.MIN, .int .i64 Iv.MAX]) (by simp [results, Try.results71, go_sem, Iv.MIN, Iv.MAX]) rfl ⟨rfl, ?_⟩
  first | exact Keeps.refl w [] | exact (Keeps.refl w []).alloc _
/-- the two ranges, and what they have in common, and the least one that has both -/
structure S6 (w W : World) (al ah bl bh ml mh jl jh : Int) (gm gj : Nat) : Prop where
  keeps : Keeps w W []
  ba : Blk W w.heap.size 86 #[.int .i64 al, .int .i64 ah]
  bb : Blk W (w.heap.size + 1) 86 #[.int .i64 bl, .int .i64 bh]
  bm : Blk W gm 86 #[.int .i64 ml, .int .i64 mh]
  bj : Blk W gj 86 #[.int .i64 jl, .int .i64 jh]
section
variable {w W W' W0 : World} {al ah bl bh ml mh jl jh : Int} {gm gj : Nat}
theorem S6.next (h : S6 w W al ah bl bh ml mh jl jh gm gj) (k : Keeps W W' []) : S6 w W' al ah bl bh ml mh jl jh gm gj :=
  ⟨h.keeps.next k, h.ba.keep k (by simp), h.bb.keep k (by simp), h.bm.keep k (by simp), h.bj.keep k (by simp)⟩
theorem S6.later (h : S6 w W al ah bl bh ml mh jl jh gm gj) (k : Keeps W0 W' []) (e : Keeps W W0 []) : S6 w W' al ah bl bh ml mh jl jh gm gj := (h.next e).next k
theorem S6.cells (h : S6 w W al ah bl bh ml mh jl jh gm gj) : W.cell? ⟨w.heap.size, 0, none⟩ = some (.int .i64 al) ∧ W.cell? ⟨w.heap.size, 1, none⟩ = some (.int .i64 ah) ∧ W.cell? ⟨w.heap.size + 1, 0, none⟩ = some (.int .i64 bl) ∧ W.cell? ⟨w.heap.size + 1, 1, none⟩ = some (.int .i64 bh) ∧
    W.cell? ⟨gm, 0, none⟩ = some (.int .i64 ml) ∧ W.cell? ⟨gm, 1, none⟩ = some (.int .i64 mh) ∧ W.cell? ⟨gj, 0, none⟩ = some (.int .i64 jl) ∧ W.cell? ⟨gj, 1, none⟩ = some (.int .i64 jh) :=
  ⟨h.ba.cell 0, h.ba.cell 1, h.bb.cell 0, h.bb.cell 1, h.bm.cell 0, h.bm.cell 1, h.bj.cell 0, h.bj.cell 1⟩
end
/-- region 5's memory: the two ranges; and new blocks -/
structure S5 (w W : World) (al ah bl bh : Int) : Prop where
  keeps : Keeps w W []
  ba : Blk W w.heap.size 86 #[.int .i64 al, .int .i64 ah]
  bb : Blk W (w.heap.size + 1) 86 #[.int .i64 bl, .int .i64 bh]
section
variable {w W W' W0 : World} {al ah bl bh : Int}
theorem S5.next (h : S5 w W al ah bl bh) (k : Keeps W W' []) : S5 w W' al ah bl bh := ⟨h.keeps.next k, h.ba.keep k (by simp), h.bb.keep k (by simp)⟩
theorem S5.cells (h : S5 w W al ah bl bh) : W.cell? ⟨w.heap.size, 0, none⟩ = some (.int .i64 al) ∧ W.cell? ⟨w.heap.size, 1, none⟩ = some (.int .i64 ah) ∧ W.cell? ⟨w.heap.size + 1, 0, none⟩ = some (.int .i64 bl) ∧ W.cell? ⟨w.heap.size + 1, 1, none⟩ = some (.int .i64 bh) :=
  ⟨h.ba.cell 0, h.ba.cell 1, h.bb.cell 0, h.bb.cell 1⟩
theorem S5.start {p q s t : Int} (k : Keeps ((w.alloc (.cells #[.int .i64 p, .int .i64 q] 86)).alloc (.cells #[.int .i64 s, .int .i64 t] 86)) W []) : S5 w W p q s t := by
  obtain ⟨h1, h2, h3⟩ := box2 k
  exact ⟨h1, h2, h3⟩
theorem s5new {X : World} : Blk (X.alloc (.cells #[.int .i64 0, .int .i64 0] 86)) X.heap.size 86 #[.int .i64 0, .int .i64 0] := Blk.new _ _ _
theorem s5ne {g : Nat} {cs : Array Value} (h : Blk W g 86 cs) : g ≠ W.heap.size := fun e => by have := h.lt; omega
theorem s5ge (h : S5 w W al ah bl bh) : w.heap.size + 2 ≤ W.heap.size := by have := h.bb.lt; omega
theorem s6_of {ml mh jl jh : Int} {gm gj : Nat} (h : S5 w W al ah bl bh) (hm : Blk W gm 86 #[.int .i64 ml, .int .i64 mh]) (hj : Blk W gj 86 #[.int .i64 jl, .int .i64 jh]) : S6 w W al ah bl bh ml mh jl jh gm gj := ⟨h.keeps, h.ba, h.bb, hm, hj⟩
/-- a new range's block takes its two numbers -/
theorem S5.store {g : Nat} {u v : Value} (h : S5 w W al ah bl bh) (hb : Blk W g 86 #[u, v]) (hg : w.heap.size + 2 ≤ g) (p q : Int) :
    S5 w ((W.setCell ⟨g, 0, none⟩ (.int .i64 p)).setCell ⟨g, 1, none⟩ (.int .i64 q)) al ah bl bh ∧ Blk ((W.setCell ⟨g, 0, none⟩ (.int .i64 p)).setCell ⟨g, 1, none⟩ (.int .i64 q)) g 86 #[.int .i64 p, .int .i64 q] := by
  have k : Keeps W ((W.setCell ⟨g, 0, none⟩ (.int .i64 p)).setCell ⟨g, 1, none⟩ (.int .i64 q)) [g] := ((Keeps.refl W _).setCell (.inl (by simp)) _).setCell (.inl (by simp)) _
  refine ⟨⟨(h.keeps.setCell (.inr (by show _ ≤ g; omega)) _).setCell (.inr (by show _ ≤ g; omega)) _, h.ba.keep k (by simp; omega), h.bb.keep k (by simp; omega)⟩, ?_⟩
  exact (hb.set_ 0 _).set_ 1 _
theorem Blk.store {g g' : Nat} {cs : Array Value} {t : TypeId} (h : Blk W g' t cs) (hg : g' ≠ g) (p q : Int) : Blk ((W.setCell ⟨g, 0, none⟩ (.int .i64 p)).setCell ⟨g, 1, none⟩ (.int .i64 q)) g' t cs :=
  h.keep (S := [g]) (((Keeps.refl W _).setCell (.inl (by simp)) _).setCell (.inl (by simp)) _) (by simp; exact hg)
end
section
variable {al ah bl bh ml mh jl jh n : Int}
theorem meet_has (h : Iv.meet ⟨al, ah⟩ ⟨bl, bh⟩ = ⟨ml, mh⟩) : Iv.has ⟨ml, mh⟩ n = (Iv.has ⟨al, ah⟩ n && Iv.has ⟨bl, bh⟩ n) := by
  unfold Iv.meet Iv.made Iv.none at h
  simp only at h
  rw [Bool.eq_iff_iff, Bool.and_eq_true, Iv.has_iff, Iv.has_iff, Iv.has_iff]
  split at h <;> (injection h with h1 h2; subst h1 h2; simp only; omega)
theorem meet_none (h : Iv.meet ⟨al, ah⟩ ⟨bl, bh⟩ = ⟨ml, mh⟩) (he : mh < ml) : 1 = ml ∧ 0 = mh := by
  unfold Iv.meet Iv.made Iv.none at h
  simp only at h
  split at h <;> (injection h with h1 h2; subst h1 h2; omega)
theorem join_has (h : Iv.join ⟨al, ah⟩ ⟨bl, bh⟩ = ⟨jl, jh⟩) (hn : (Iv.has ⟨al, ah⟩ n || Iv.has ⟨bl, bh⟩ n) = true) : Iv.has ⟨jl, jh⟩ n = true := by
  unfold Iv.join Iv.made Iv.none at h
  simp only at h
  rw [Bool.or_eq_true, Iv.has_iff, Iv.has_iff] at hn
  rw [Iv.has_iff]
  simp only at hn ⊢
  split at h <;> split at h <;> (injection h with h1 h2; subst h1 h2; omega)
theorem join_ED (h : Iv.join ⟨al, ah⟩ ⟨bl, bh⟩ = ⟨jl, jh⟩) (h1 : ah < al) (h2 : bh < bl) : 1 = jl ∧ 0 = jh := by
  unfold Iv.join Iv.made Iv.none at h
  simp only [if_pos h1, if_pos h2] at h
  injection h with h3 h4; exact ⟨h3, h4⟩
theorem join_E (h : Iv.join ⟨al, ah⟩ ⟨bl, bh⟩ = ⟨jl, jh⟩) (h1 : ah < al) (h2 : ¬ bh < bl) : bl = jl ∧ bh = jh := by
  unfold Iv.join Iv.made Iv.none at h
  simp only [if_pos h1, if_neg h2] at h
  injection h with h3 h4; exact ⟨h3, h4⟩
theorem join_D (h : Iv.join ⟨al, ah⟩ ⟨bl, bh⟩ = ⟨jl, jh⟩) (h1 : ¬ ah < al) (h2 : bh < bl) : al = jl ∧ ah = jh := by
  unfold Iv.join Iv.made Iv.none at h
  simp only [if_neg h1, if_pos h2] at h
  injection h with h3 h4; exact ⟨h3, h4⟩
theorem join_N (h : Iv.join ⟨al, ah⟩ ⟨bl, bh⟩ = ⟨jl, jh⟩) (h1 : ¬ ah < al) (h2 : ¬ bh < bl) : min al bl = jl ∧ max ah bh = jh := by
  unfold Iv.join Iv.made Iv.none at h
  simp only [if_neg h1, if_neg h2] at h
  injection h with h3 h4; exact ⟨h3, h4⟩
theorem within_e (h1 : ah < al) : Iv.within ⟨al, ah⟩ ⟨bl, bh⟩ = true := by
  unfold Iv.within; simp [h1]
theorem within_y (h1 : ¬ ah < al) (h2 : bl ≤ al) : Iv.within ⟨al, ah⟩ ⟨bl, bh⟩ = decide (ah ≤ bh) := by
  unfold Iv.within
  rw [Bool.eq_iff_iff]
  simp [Iv.has]
  omega
theorem within_n (h1 : ¬ ah < al) (h2 : ¬ bl ≤ al) : Iv.within ⟨al, ah⟩ ⟨bl, bh⟩ = false := by
  unfold Iv.within
  rw [Bool.eq_false_iff]
  simp [Iv.has]
  omega
theorem single_no (h : al ≠ ah) (w : World) : Calls Try.prog 67 #[.agg #[.int .i64 al, .int .i64 ah]] w fun e w' => e = .returned (.tuple #[.int .i64 0, .bool false]) ∧ Keeps w w' [] := by
  have := single_any al ah w
  rw [if_neg h, decide_eq_false h] at this
  exact this
theorem single_yes (h : al = ah) (w : World) : Calls Try.prog 67 #[.agg #[.int .i64 al, .int .i64 ah]] w fun e w' => e = .returned (.tuple #[.int .i64 al, .bool true]) ∧ Keeps w w' [] := by
  have := single_any al ah w
  rw [if_pos h, decide_eq_true h] at this
  exact this
theorem win_of {v : Bool} (h : Iv.within ⟨al, ah⟩ ⟨bl, bh⟩ = v) (w : World) : Calls Try.prog 68 #[.agg #[.int .i64 al, .int .i64 ah], .agg #[.int .i64 bl, .int .i64 bh]] w fun e w' => e = .returned (.bool v) ∧ Keeps w w' [] := within_of (r := ⟨al, ah⟩) (s := ⟨bl, bh⟩) h w
theorem hasi_of {v : Bool} (h : Iv.has ⟨al, ah⟩ n = v) (w : World) : Calls Try.prog 64 #[.agg #[.int .i64 al, .int .i64 ah], .int .i64 n] w fun e w' => e = .returned (.bool v) ∧ Keeps w w' [] := has_of (r := ⟨al, ah⟩) h w
end
end Go.Proofs.Ytppidnjhdefbiaa
