/- Package interval: the contract of hull.add. -/
import Derived.Test.YtppidnjhdefbiaaIvLeaf
import Derived.Deep.RegionHeld3
import Derived.Deep.RegionWith
namespace Go.Proofs.Ytppidnjhdefbiaa
open Go.RowKit
set_option linter.unusedVariables false

/-- block g is a hull: a range, and whether a result didn't fit -/
def HullB (w : World) (g : Nat) (r : Iv.R) (wd : Bool) : Prop := Blk w g 128 #[.int .i64 r.lo, .int .i64 r.hi, .bool wd]

theorem Keeps.trans' {a b c : World} {g : Nat} (h : Keeps a b [g]) (k : Keeps b c []) : Keeps a c [g] := (h.trans k).mono (fun _ h => .inl (by simpa using h))
theorem keeps_set2 {w w1 w2 : World} {g : Nat} {u v : Value} (k1 : Keeps w w1 [g]) (k2 : Keeps w1 w2 []) : Keeps w ((w2.setCell ⟨g, 0, none⟩ u).setCell ⟨g, 1, none⟩ v) [g] :=
  (((k1.trans k2).mono (fun _ h => .inl (by simpa using h))).setCell (.inl (by simp)) _).setCell (.inl (by simp)) _

theorem HullB.later {w w0 w1 : World} {g : Nat} {r : Iv.R} {wd : Bool} (h : HullB w g r wd) (k : Keeps w0 w1 []) (e : w0.heap = w.heap) : Blk w1 g 128 #[.int .i64 r.lo, .int .i64 r.hi, .bool wd] :=
  Blk.keep (w := w0) (by unfold Blk; rw [e]; exact h) k (by simp)

theorem hadd_yes {w : World} {g : Nat} {r : Iv.R} {wd : Bool} (hb : HullB w g r wd) (n en : Int) :
    Calls Try.prog 100 #[.pointer (some ⟨g, 0, none⟩), .int .i64 n, .bool true, .int .i64 en] w fun e w' => e = .returned (.tuple #[]) ∧ Keeps w w' [g] ∧ HullB w' g (Iv.addn r n) wd := by
  obtain ⟨p, q⟩ := r
  obtain ⟨s, hs⟩ : ∃ s, Iv.addn ⟨p, q⟩ n = s := ⟨_, rfl⟩
  rw [hs]
  have CJ := kept (fun w => join_any p q n n w)
  have e : Iv.join ⟨p, q⟩ ⟨n, n⟩ = s := (Iv.join_of ⟨p, q⟩ n).trans hs
  rw [e] at CJ
  clear e hs
  have c0 := Blk.cell hb 0
  have c1 := Blk.cell hb 1
  simp at c0 c1
  have HB := kept hb
  clear hb
  go_enter Try.func100, Try.ntmps100
  go_wp2
  go_region_with (first | (go_at_call 69; refine (of_any _ _).mono ?_; rintro e w1 ⟨rfl, k1⟩; have B1 := HB.out.later k1 (by rfl); have c0' := B1.cell 0; have c1' := B1.cell 1; simp at c0' c1'; have B1 := kept B1; have K1 := kept k1; clear k1) | (go_at_call 63; refine (CJ.out _).mono ?_; rintro e w2 ⟨rfl, k2⟩; have B2 := Blk.keep B1.out k2 (by simp); have c0'' := B2.cell 0; have c1'' := B2.cell 1; have f0 := B2.frozen 0; have f1 := B2.frozen 1; simp at c0'' c1''; have B2 := kept B2; have K2 := kept k2; clear k2))
  all_goals
    go_wp2
    go_end0
    exact ⟨rfl, keeps_set2 ((Keeps.refl w [g]).drew.trans' K1.out) K2.out, by have := (Blk.set_ B2.out 0 (.int .i64 s.lo)).set_ 1 (.int .i64 s.hi); simpa [HullB] using this⟩

theorem hadd_no {w : World} {g : Nat} {r : Iv.R} {wd : Bool} (hb : HullB w g r wd) (n en : Int) :
    Calls Try.prog 100 #[.pointer (some ⟨g, 0, none⟩), .int .i64 n, .bool false, .int .i64 en] w fun e w' => e = .returned (.tuple #[]) ∧ Keeps w w' [g] ∧ HullB w' g (Iv.addn r en) true := by
  obtain ⟨p, q⟩ := r
  obtain ⟨s, hs⟩ : ∃ s, Iv.addn ⟨p, q⟩ en = s := ⟨_, rfl⟩
  rw [hs]
  have CJ := kept (fun w => join_any p q en en w)
  have e : Iv.join ⟨p, q⟩ ⟨en, en⟩ = s := (Iv.join_of ⟨p, q⟩ en).trans hs
  rw [e] at CJ
  clear e hs
  have c2 := Blk.cell hb 2
  have z2 := Blk.frozen hb 2
  simp at c2
  have hb' : HullB (w.setCell ⟨g, 2, none⟩ (.bool true)) g ⟨p, q⟩ true := by have := Blk.set_ hb 2 (.bool true); simpa [HullB] using this
  have kW : Keeps w (w.setCell ⟨g, 2, none⟩ (.bool true)) [g] := (Keeps.refl w [g]).setCell (.inl (by simp)) _
  have HB := kept hb'
  have KW := kept kW
  clear hb hb' kW
  go_enter Try.func100, Try.ntmps100
  go_wp2
  generalize w.setCell ⟨g, 2, none⟩ (.bool true) = W at *
  have c0 := Blk.cell HB.out 0
  have c1 := Blk.cell HB.out 1
  simp at c0 c1
  clear c2 z2
  go_region_with (first | (go_at_call 69; refine (of_any _ _).mono ?_; rintro e w1 ⟨rfl, k1⟩; have B1 := HB.out.later k1 (by rfl); have c0' := B1.cell 0; have c1' := B1.cell 1; simp at c0' c1'; have B1 := kept B1; have K1 := kept k1; clear k1) | (go_at_call 63; refine (CJ.out _).mono ?_; rintro e w2 ⟨rfl, k2⟩; have B2 := Blk.keep B1.out k2 (by simp); have c0'' := B2.cell 0; have c1'' := B2.cell 1; have f0 := B2.frozen 0; have f1 := B2.frozen 1; simp at c0'' c1''; have B2 := kept B2; have K2 := kept k2; clear k2))
  all_goals
    go_wp2
    go_end0
    exact ⟨rfl, keeps_set2 (KW.out.drew.trans' K1.out) K2.out, by have := (Blk.set_ B2.out 0 (.int .i64 s.lo)).set_ 1 (.int .i64 s.hi); simpa [HullB] using this⟩
end Go.Proofs.Ytppidnjhdefbiaa
