/- A program that came in as an argument, opened. -/
import Derived.Test.YtjllbchfojonhaaGreatDoorB2
namespace Go.Proofs.YtjllbchfojonhaaGreatDoor
open Go.Lib Go.Deep Go.Joins Go.ChangeShapes Go.WideShapes Go.ChangeAt Go.RowKit
set_option linter.unusedVariables false
section
variable {H : Type} {enc : TypeId × Value → H} {w : World} {base : Nat} {spare : Nat → Bool} {held : Bool}
theorem open_insts {fuel : Nat} {cs : List Value} {x : DataW H × List MemPlace} (h : DataW.trod enc Tryz.prog w base spare held fuel 32 cs = some x) :
  ∃ (v : Value) (l : List InstM), cs = [v] ∧ Row w 4 v (l.map InstM.cells) ∧ ∀ m ∈ l, InstAt w m :=
 open_rows InstM.cells (InstAt w) (C := 4) Tryz.underlying32 (by kernel_rfl) (by decide) (fun n cs y hl ht => by
  obtain ⟨y0, y1, y2, y3, n', _, _, h0, h1, h2, h3⟩ := trod_struct4 Tryz.underlying43 ht
  obtain ⟨c0, c1, c2, c3, rfl⟩ := list4 hl
  obtain ⟨z0, e0, _, _⟩ := DataW.trod_int Tryz.underlying41 h0
  obtain ⟨z1, e1, _, _⟩ := DataW.trod_int Tryz.underlying3 h1
  obtain ⟨p2, e2, k2⟩ := open_ints h2
  obtain ⟨z3, e3, _, _⟩ := DataW.trod_int Tryz.underlying2 h3
  simp [show Tryz.prog.cellsOf 41 = 1 by kernel_rfl, show Tryz.prog.cellsOf 3 = 1 by kernel_rfl, show Tryz.prog.cellsOf 23 = 1 by kernel_rfl, show Tryz.prog.cellsOf 2 = 1 by kernel_rfl] at e0 e1 e2 e3
  subst e0 e1 e2 e3
  exact ⟨⟨z0, z1, p2, z3⟩, rfl, k2⟩) h
theorem open_blocks {fuel : Nat} {cs : List Value} {x : DataW H × List MemPlace} (h : DataW.trod enc Tryz.prog w base spare held fuel 24 cs = some x) :
  ∃ (v : Value) (l : List BlockM), cs = [v] ∧ Row w 7 v (l.map BlockM.cells) ∧ ∀ m ∈ l, BlockAt w m :=
 open_rows BlockM.cells (BlockAt w) (C := 7) Tryz.underlying24 (by kernel_rfl) (by decide) (fun n cs y hl ht => by
  obtain ⟨y0, y1, y2, y3, n', _, _, h0, h1, h2, h3⟩ := trod_struct4 Tryz.underlying38 ht
  obtain ⟨c0, c1, c2, c3, c4, c5, c6, rfl⟩ := list7 hl
  simp [show Tryz.prog.cellsOf 9 = 1 by kernel_rfl, show Tryz.prog.cellsOf 31 = 1 by kernel_rfl, show Tryz.prog.cellsOf 32 = 1 by kernel_rfl, show Tryz.prog.cellsOf 36 = 4 by kernel_rfl] at h0 h1 h2 h3
  obtain ⟨s, e0, _, hs⟩ := DataW.trod_string Tryz.underlying9 h0
  obtain ⟨v1, l1, e1, r1, k1⟩ := open_phis h1
  obtain ⟨v2, l2, e2, r2, k2⟩ := open_insts h2
  obtain ⟨x0, x1, x2, m, _, _, g0, g1, g2⟩ := trod_struct3 Tryz.underlying36 h3
  simp [show Tryz.prog.cellsOf 33 = 1 by kernel_rfl, show Tryz.prog.cellsOf 3 = 1 by kernel_rfl, show Tryz.prog.cellsOf 34 = 2 by kernel_rfl] at g0 g1 g2
  obtain ⟨z0, f0, _, _⟩ := DataW.trod_int Tryz.underlying33 g0
  obtain ⟨z1, f1, _, _⟩ := DataW.trod_int Tryz.underlying3 g1
  obtain ⟨a, b, f2, f3⟩ := open_two g2
  simp at e0 e1 e2 f0 f1
  subst e0 e1 e2 f0 f1 f2 f3
  exact ⟨⟨s, (c1, l1), (c2, l2), z0, z1, a, b⟩, rfl, ⟨r1, k1, r2, k2, hs⟩⟩) h
set_option maxRecDepth 10000 in
theorem open_func {r : Reach} {b0 : Nat} {v : Value} {d : DataW H} {p : List MemPlace} (hv : Value.okWide Tryz.prog w r b0 26 v) (h : DataW.Trod enc Tryz.prog w base spare held 26 v d p) :
  ∃ f : FuncM, v = f.val ∧ FuncAt w f := by
 obtain ⟨fuel, hx⟩ := h
 obtain ⟨y0, y1, y2, n', _, hl', h0, h1, h2⟩ := trod_struct3 Tryz.underlying26 hx
 rw [show Tryz.prog.cellsOf 26 = 3 by kernel_rfl] at hl'
 obtain ⟨c0, c1, c2, hc⟩ : ∃ c0 c1 c2, v.cells.toList = [c0, c1, c2] := by
  exact list3 hl'
 rw [hc] at h0 h1 h2
 simp [show Tryz.prog.cellsOf 22 = 1 by kernel_rfl, show Tryz.prog.cellsOf 23 = 1 by kernel_rfl, show Tryz.prog.cellsOf 24 = 1 by kernel_rfl] at h0 h1 h2
 obtain ⟨v0, l0, e0, r0, k0⟩ := open_vars h0
 obtain ⟨p1, e1, k1⟩ := open_ints h1
 obtain ⟨v2, l2, e2, r2, k2⟩ := open_blocks h2
 simp at e0 e1 e2
 subst e0 e1 e2
 have hv' : v = .agg #[c0, p1.1, c2] := by
  cases v <;> simp [Value.cells, Value.okWide, Tryz.underlying26] at hc hv ⊢
  rename_i cs
  obtain ⟨l⟩ := cs
  simpa using hc
 exact ⟨⟨(c0, l0), p1, (c2, l2)⟩, hv', ⟨r0, k0, k1, r2, k2⟩⟩
end
end Go.Proofs.YtjllbchfojonhaaGreatDoor
