/- Package interval: the contracts of the law IntervalSmall: what its loops keep. -/
import Derived.Test.YtppidnjhdefbiaaIvSmallHead
namespace Go.Proofs.Ytppidnjhdefbiaa
open Go.RowKit
set_option linter.unusedVariables false

/-- the law's own five ranges -/
structure SB (w wr : World) (ga g : Nat) (a b W T C : Iv.R) : Prop where
  keeps : Keeps w wr []
  lo : w.heap.size ≤ ga
  far : ga + 1 < g
  ba : Blk wr ga 86 #[.int .i64 a.lo, .int .i64 a.hi]
  bb : Blk wr (ga + 1) 86 #[.int .i64 b.lo, .int .i64 b.hi]
  bw : Blk wr g 86 #[.int .i64 W.lo, .int .i64 W.hi]
  bt : Blk wr (g + 1) 86 #[.int .i64 T.lo, .int .i64 T.hi]
  bc : Blk wr (g + 1 + 1) 86 #[.int .i64 C.lo, .int .i64 C.hi]
section
variable {w wr w' w0 : World} {ga g : Nat} {a b W T C : Iv.R}
theorem SB.next (h : SB w wr ga g a b W T C) (k : Keeps wr w' []) : SB w w' ga g a b W T C :=
  ⟨h.keeps.next k, h.lo, h.far, h.ba.keep k (by simp), h.bb.keep k (by simp), h.bw.keep k (by simp), h.bt.keep k (by simp), h.bc.keep k (by simp)⟩
theorem SB.later (h : SB w wr ga g a b W T C) (k : Keeps w0 w' []) (e : Keeps wr w0 []) : SB w w' ga g a b W T C := (h.next e).next k
theorem set_two {w : World} {g : Nat} {x y u v : Value} (h : Blk w g 86 #[x, y]) : Blk ((w.setCell ⟨g, 0, none⟩ u).setCell ⟨g, 1, none⟩ v) g 86 #[u, v] := by
  have := (h.set_ 0 u).set_ 1 v
  simpa using this
theorem keeps_two (w : World) (g : Nat) (u v : Value) : Keeps w ((w.setCell ⟨g, 0, none⟩ u).setCell ⟨g, 1, none⟩ v) [g] := ((Keeps.refl w [g]).setCell (.inl (by simp)) _).setCell (.inl (by simp)) _
theorem SB.setW (h : SB w wr ga g a b W T C) (V : Iv.R) : SB w ((wr.setCell ⟨g, 0, none⟩ (.int .i64 V.lo)).setCell ⟨g, 1, none⟩ (.int .i64 V.hi)) ga g a b V T C := by
  have k := keeps_two wr g (.int .i64 V.lo) (.int .i64 V.hi)
  have := h.lo
  have := h.far
  exact ⟨keep_own h.keeps k (fun i hi => by simp at hi; omega), h.lo, h.far, h.ba.keep k (by simp; omega), h.bb.keep k (by simp; omega), set_two h.bw, h.bt.keep k (by simp), h.bc.keep k (by simp; omega)⟩
theorem SB.setT (h : SB w wr ga g a b W T C) (V : Iv.R) : SB w ((wr.setCell ⟨g + 1, 0, none⟩ (.int .i64 V.lo)).setCell ⟨g + 1, 1, none⟩ (.int .i64 V.hi)) ga g a b W V C := by
  have k := keeps_two wr (g + 1) (.int .i64 V.lo) (.int .i64 V.hi)
  have := h.lo
  have := h.far
  exact ⟨keep_own h.keeps k (fun i hi => by simp at hi; omega), h.lo, h.far, h.ba.keep k (by simp; omega), h.bb.keep k (by simp; omega), h.bw.keep k (by simp), set_two h.bt, h.bc.keep k (by simp)⟩
theorem SB.setC (h : SB w wr ga g a b W T C) (V : Iv.R) : SB w ((wr.setCell ⟨g + 1 + 1, 0, none⟩ (.int .i64 V.lo)).setCell ⟨g + 1 + 1, 1, none⟩ (.int .i64 V.hi)) ga g a b W T V := by
  have k := keeps_two wr (g + 1 + 1) (.int .i64 V.lo) (.int .i64 V.hi)
  have := h.lo
  have := h.far
  exact ⟨keep_own h.keeps k (fun i hi => by simp at hi; omega), h.lo, h.far, h.ba.keep k (by simp; omega), h.bb.keep k (by simp; omega), h.bw.keep k (by simp; omega), h.bt.keep k (by simp), set_two h.bc⟩
theorem SB.cells (h : SB w wr ga g a b W T C) : wr.cell? ⟨ga, 0, none⟩ = some (.int .i64 a.lo) ∧ wr.cell? ⟨ga, 1, none⟩ = some (.int .i64 a.hi) ∧ wr.cell? ⟨ga + 1, 0, none⟩ = some (.int .i64 b.lo) ∧ wr.cell? ⟨ga + 1, 1, none⟩ = some (.int .i64 b.hi) ∧
    wr.cell? ⟨g, 0, none⟩ = some (.int .i64 W.lo) ∧ wr.cell? ⟨g, 1, none⟩ = some (.int .i64 W.hi) ∧ wr.cell? ⟨g + 1, 0, none⟩ = some (.int .i64 T.lo) ∧ wr.cell? ⟨g + 1, 1, none⟩ = some (.int .i64 T.hi) ∧ wr.cell? ⟨g + 1 + 1, 0, none⟩ = some (.int .i64 C.lo) ∧ wr.cell? ⟨g + 1 + 1, 1, none⟩ = some (.int .i64 C.hi) :=
  ⟨h.ba.cell 0, h.ba.cell 1, h.bb.cell 0, h.bb.cell 1, h.bw.cell 0, h.bw.cell 1, h.bt.cell 0, h.bt.cell 1, h.bc.cell 0, h.bc.cell 1⟩
theorem SB.free (h : SB w wr ga g a b W T C) : wr.frozen? ⟨g, 0, none⟩ = false ∧ wr.frozen? ⟨g, 1, none⟩ = false ∧ wr.frozen? ⟨g + 1, 0, none⟩ = false ∧ wr.frozen? ⟨g + 1, 1, none⟩ = false ∧ wr.frozen? ⟨g + 1 + 1, 0, none⟩ = false ∧ wr.frozen? ⟨g + 1 + 1, 1, none⟩ = false :=
  ⟨h.bw.frozen 0, h.bw.frozen 1, h.bt.frozen 0, h.bt.frozen 1, h.bc.frozen 0, h.bc.frozen 1⟩
theorem SB.start {w w3 w6 : World} {a b : Iv.R} (k3 : Keeps w w3 []) (k6 : Keeps ((w3.alloc (.cells #[.int .i64 a.lo, .int .i64 a.hi] 86)).alloc (.cells #[.int .i64 b.lo, .int .i64 b.hi] 86)) w6 []) :
    SB w (((w6.alloc (.cells #[.int .i64 1, .int .i64 0] 86)).alloc (.cells #[.int .i64 1, .int .i64 0] 86)).alloc (.cells #[.int .i64 1, .int .i64 0] 86)) w3.heap.size w6.heap.size a b Iv.none Iv.none Iv.none := by
  obtain ⟨h1, h2, h3⟩ := box2 k6
  have hl := h3.lt
  obtain ⟨j1, j2, j3, j4⟩ := box3 (w := w6) (Keeps.refl (((w6.alloc (.cells #[.int .i64 1, .int .i64 0] 86)).alloc (.cells #[.int .i64 1, .int .i64 0] 86)).alloc (.cells #[.int .i64 1, .int .i64 0] 86)) [])
  exact ⟨(k3.next h1).next j1, k3.size, hl, h2.keep j1 (by simp), h3.keep j1 (by simp), j2, j3, j4⟩
end

/-- what the two inner ranges are -/
def SInv (op : Int) (a b : Iv.R) (x y : Int) (W T : Iv.R) : Prop := (op = 5 → Iv.Hull (SW a b x y) W) ∧ (op = 7 ∨ op = 8 ∨ op = 9 → Iv.Hull (ST op a b x y) T)
theorem sinv_start (op : Int) (a b : Iv.R) : SInv op a b a.lo b.lo Iv.none Iv.none := ⟨fun _ => sw_start, fun _ => st_start⟩
theorem sinv_next {op : Int} {a b : Iv.R} {x : Int} {W T : Iv.R} (h : SInv op a b x (b.hi + 1) W T) : SInv op a b (x + 1) b.lo W T := ⟨fun e => sw_next (h.1 e), fun e => st_next (h.2 e)⟩
theorem sinv_so {op : Int} (hop : op = 7 ∨ op = 8 ∨ op = 9) {a b : Iv.R} {x y : Int} {W T : Iv.R} (h1 : a.lo ≤ x) (h2 : b.lo ≤ y) (h3 : y ≤ b.hi) (n : Int) (hn : n = Iv.val (Iv.so op x y)) (h : SInv op a b x y W T) : SInv op a b x (y + 1) W (Iv.addn T n) :=
  ⟨fun e => by omega, fun e => by rw [hn]; exact st_add h1 h2 h3 (h.2 e)⟩
theorem sinv_div {a b : Iv.R} {x y : Int} {W T : Iv.R} (h1 : a.lo ≤ x) (h2 : b.lo ≤ y) (h3 : y ≤ b.hi) (hy : ¬ y = 0) (n : Int) (hn : n = x.tdiv y) (h : SInv 5 a b x y W T) : SInv 5 a b x (y + 1) (Iv.addn W n) T :=
  ⟨fun e => by rw [hn]; exact sw_add h1 h2 h3 hy (h.1 e), fun e => by omega⟩
theorem sinv_div0 {a b : Iv.R} {x y : Int} {W T : Iv.R} (h1 : a.lo ≤ x) (h2 : b.lo ≤ y) (h3 : y ≤ b.hi) (hy : y = 0) (h : SInv 5 a b x y W T) : SInv 5 a b x (y + 1) W T :=
  ⟨fun e => sw_zero h1 h2 h3 hy (h.1 e), fun e => by omega⟩
theorem sinv_other {op : Int} (hop : ¬ (op = 5 ∨ op = 7 ∨ op = 8 ∨ op = 9)) (a b : Iv.R) (x y : Int) (W T : Iv.R) : SInv op a b x y W T := ⟨fun e => by omega, fun e => by omega⟩
theorem sinv_truth {op : Int} (hop : op = 7 ∨ op = 8 ∨ op = 9) {a b : Iv.R} {W T : Iv.R} (ha : a.lo ≤ a.hi) (hb : b.lo ≤ b.hi) (h : SInv op a b (a.hi + 1) b.lo W T) : Iv.truth op a b = T :=
  (Iv.hull_truth op hop a b ha hb).unique (st_end (h.2 hop))
theorem sinv_quot {a b : Iv.R} {W T : Iv.R} (ha : a.lo ≤ a.hi) (hb : b.lo ≤ b.hi) (h1 : Iv.MIN < a.lo) (h2 : Iv.MIN ≤ b.lo) (h3 : b.hi ≤ Iv.MAX) (h : SInv 5 a b (a.hi + 1) b.lo W T) : Iv.apply 5 a b = W := by
  rw [Iv.apply_open 5 ha hb, if_neg (by decide), if_pos rfl]
  unfold Iv.quot
  rw [if_neg (by simp [Iv.quotW]; omega)]
  exact (Iv.hull_quot0 a b ha h2 h3).unique (sw_end (h.1 rfl))
theorem sc_cut {num : Int} {a b C : Iv.R} (ha : a.lo ≤ a.hi) (hb : b.lo ≤ b.hi) (h1 : Iv.MIN ≤ a.lo) (h2 : a.hi ≤ Iv.MAX) (h : Iv.Hull (SC num a b (a.hi + 1)) C) : Iv.cut num a b = C :=
  (Iv.hull_cut num a b ha hb h1 h2).unique (sc_end h)
theorem lawnone_any (w : World) : Calls Try.prog 66 #[] w fun e w' => e = .returned (.agg #[.int .i64 1, .int .i64 0]) ∧ Keeps w w' [] := by
  go_enter Try.func66, Try.ntmps66
  go_wp2
  exact bodyPost_ret (v := .agg #[.int .i64 1, .int .i64 0]) (by simp [results, Try.results66, go_sem]) rfl ⟨rfl, (Keeps.refl w []).alloc _⟩
theorem smallr_of (base l n : Int) (r : Iv.R) (hr : smallR base l n = r) (hb : inI base = true) (hl0 : 0 ≤ l) (hl : l ≤ 255) (hn0 : 0 ≤ n) (hn : n ≤ 255) (w : World) :
    Calls Try.prog 73 #[.int .i64 base, .int .u8 l, .int .u8 n] w fun e w' => e = .returned (.agg #[.int .i64 r.lo, .int .i64 r.hi]) ∧ Keeps w w' [] := by
  subst hr; exact small_any base l n hb hl0 hl hn0 hn w
/-- a range that isn't out of bounds -/
def Mid (r : Iv.R) : Prop := -9223372036854775808 < r.lo ∧ r.lo ≤ r.hi ∧ r.hi < 9223372036854775807
theorem mid_wf {r : Iv.R} (h : Mid r) : Iv.Wf r := by unfold Mid at h; unfold Iv.Wf Iv.MIN Iv.MAX; omega
end Go.Proofs.Ytppidnjhdefbiaa
