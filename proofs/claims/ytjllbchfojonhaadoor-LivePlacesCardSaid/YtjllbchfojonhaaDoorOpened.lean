/- A program that came in as an argument, opened. -/
import Derived.Test.YtjllbchfojonhaaDoorForm
import Derived.Test.YtjllbchfojonhaaDoorChecked
namespace Go.Proofs.YtjllbchfojonhaaDoor
open Go.Lib Go.Deep Go.Joins Go.ChangeShapes Go.WideShapes Go.ChangeAt Go.RowKit
set_option linter.unusedVariables false
theorem list2 {α : Type} {l : List α} (h : l.length = 2) : ∃ a b, l = [a, b] := by match l, h with | [a, b], _ => exact ⟨a, b, rfl⟩
theorem list3 {α : Type} {l : List α} (h : l.length = 3) : ∃ a b c, l = [a, b, c] := by match l, h with | [a, b, c], _ => exact ⟨a, b, c, rfl⟩
theorem list4 {α : Type} {l : List α} (h : l.length = 4) : ∃ a b c d, l = [a, b, c, d] := by match l, h with | [a, b, c, d], _ => exact ⟨a, b, c, d, rfl⟩
theorem list7 {α : Type} {l : List α} (h : l.length = 7) : ∃ a b c d e f g, l = [a, b, c, d, e, f, g] := by match l, h with | [a, b, c, d, e, f, g], _ => exact ⟨a, b, c, d, e, f, g, rfl⟩
section
variable {H : Type} {enc : TypeId × Value → H} {w : World} {base : Nat} {spare : Nat → Bool} {held : Bool}
theorem open_ints {fuel : Nat} {cs : List Value} {x : DataW H × List MemPlace} (h : DataW.trod enc Tryd.prog w base spare held fuel 23 cs = some x) :
    ∃ p : IntsM, cs = [p.1] ∧ IntsAt w p := by
  obtain ⟨v, l, rfl, hr, _⟩ := open_rows (M := Int) intCells (fun _ => True) (C := 1) Tryd.underlying23 (by kernel_rfl) (by decide) (fun n cs y hl ht => by
    obtain ⟨z, rfl, _, _⟩ := DataW.trod_int Tryd.underlying3 ht
    exact ⟨z, rfl, trivial⟩) h
  exact ⟨(v, l), rfl, hr⟩
theorem open_vars {fuel : Nat} {cs : List Value} {x : DataW H × List MemPlace} (h : DataW.trod enc Tryd.prog w base spare held fuel 22 cs = some x) :
    ∃ (v : Value) (l : List VarM), cs = [v] ∧ Row w 2 v (l.map VarM.cells) ∧ ∀ m ∈ l, m.name.size ≤ maxLen :=
  open_rows VarM.cells (fun m => m.name.size ≤ maxLen) (C := 2) Tryd.underlying22 (by kernel_rfl) (by decide) (fun n cs y hl ht => by
    obtain ⟨y0, y1, n', _, _, h0, h1⟩ := trod_struct2 Tryd.underlying69 ht
    obtain ⟨c0, c1, rfl⟩ := list2 hl
    obtain ⟨s, e0, _, hs⟩ := DataW.trod_string Tryd.underlying9 h0
    obtain ⟨z, e1, _, _⟩ := DataW.trod_int Tryd.underlying67 h1
    simp [show Tryd.prog.cellsOf 9 = 1 by kernel_rfl, show Tryd.prog.cellsOf 67 = 1 by kernel_rfl] at e0 e1
    subst e0 e1
    exact ⟨⟨s, z⟩, rfl, hs⟩) h
theorem open_phis {fuel : Nat} {cs : List Value} {x : DataW H × List MemPlace} (h : DataW.trod enc Tryd.prog w base spare held fuel 32 cs = some x) :
    ∃ (v : Value) (l : List PhiM), cs = [v] ∧ Row w 3 v (l.map PhiM.cells) ∧ ∀ m ∈ l, PhiAt w m :=
  open_rows PhiM.cells (PhiAt w) (C := 3) Tryd.underlying32 (by kernel_rfl) (by decide) (fun n cs y hl ht => by
    obtain ⟨y0, y1, y2, n', _, _, h0, h1, h2⟩ := trod_struct3 Tryd.underlying79 ht
    obtain ⟨c0, c1, c2, rfl⟩ := list3 hl
    obtain ⟨z, e0, _, hs⟩ := DataW.trod_int Tryd.underlying3 h0
    obtain ⟨p1, e1, k1⟩ := open_ints h1
    obtain ⟨p2, e2, k2⟩ := open_ints h2
    simp [show Tryd.prog.cellsOf 3 = 1 by kernel_rfl, show Tryd.prog.cellsOf 23 = 1 by kernel_rfl] at e0 e1 e2
    subst e0 e1 e2
    exact ⟨⟨z, p1, p2⟩, rfl, k1, k2⟩) h
theorem open_insts {fuel : Nat} {cs : List Value} {x : DataW H × List MemPlace} (h : DataW.trod enc Tryd.prog w base spare held fuel 33 cs = some x) :
    ∃ (v : Value) (l : List InstM), cs = [v] ∧ Row w 4 v (l.map InstM.cells) ∧ ∀ m ∈ l, InstAt w m :=
  open_rows InstM.cells (InstAt w) (C := 4) Tryd.underlying33 (by kernel_rfl) (by decide) (fun n cs y hl ht => by
    obtain ⟨y0, y1, y2, y3, n', _, _, h0, h1, h2, h3⟩ := trod_struct4 Tryd.underlying42 ht
    obtain ⟨c0, c1, c2, c3, rfl⟩ := list4 hl
    obtain ⟨z0, e0, _, _⟩ := DataW.trod_int Tryd.underlying40 h0
    obtain ⟨z1, e1, _, _⟩ := DataW.trod_int Tryd.underlying3 h1
    obtain ⟨p2, e2, k2⟩ := open_ints h2
    obtain ⟨z3, e3, _, _⟩ := DataW.trod_int Tryd.underlying2 h3
    simp [show Tryd.prog.cellsOf 40 = 1 by kernel_rfl, show Tryd.prog.cellsOf 3 = 1 by kernel_rfl, show Tryd.prog.cellsOf 23 = 1 by kernel_rfl, show Tryd.prog.cellsOf 2 = 1 by kernel_rfl] at e0 e1 e2 e3
    subst e0 e1 e2 e3
    exact ⟨⟨z0, z1, p2, z3⟩, rfl, k2⟩) h
theorem open_two {fuel : Nat} {c0 c1 : Value} {x : DataW H × List MemPlace} (h : DataW.trod enc Tryd.prog w base spare held fuel 35 [c0, c1] = some x) : ∃ a b : Int, c0 = .int .i64 a ∧ c1 = .int .i64 b := by
  obtain ⟨xs, n, _, _, _, hxl, hx⟩ := DataW.trod_array Tryd.underlying35 h
  obtain ⟨x0, x1, rfl⟩ := list2 hxl
  have h0 := hx 0 (by decide)
  have h1 := hx 1 (by decide)
  simp [show Tryd.prog.cellsOf 3 = 1 by kernel_rfl] at h0 h1
  obtain ⟨a, e0, _, _⟩ := DataW.trod_int Tryd.underlying3 h0
  obtain ⟨b, e1, _, _⟩ := DataW.trod_int Tryd.underlying3 h1
  simp at e0 e1
  exact ⟨a, b, e0, e1⟩
theorem open_blocks {fuel : Nat} {cs : List Value} {x : DataW H × List MemPlace} (h : DataW.trod enc Tryd.prog w base spare held fuel 24 cs = some x) :
    ∃ (v : Value) (l : List BlockM), cs = [v] ∧ Row w 7 v (l.map BlockM.cells) ∧ ∀ m ∈ l, BlockAt w m :=
  open_rows BlockM.cells (BlockAt w) (C := 7) Tryd.underlying24 (by kernel_rfl) (by decide) (fun n cs y hl ht => by
    obtain ⟨y0, y1, y2, y3, n', _, _, h0, h1, h2, h3⟩ := trod_struct4 Tryd.underlying39 ht
    obtain ⟨c0, c1, c2, c3, c4, c5, c6, rfl⟩ := list7 hl
    simp [show Tryd.prog.cellsOf 9 = 1 by kernel_rfl, show Tryd.prog.cellsOf 32 = 1 by kernel_rfl, show Tryd.prog.cellsOf 33 = 1 by kernel_rfl, show Tryd.prog.cellsOf 37 = 4 by kernel_rfl] at h0 h1 h2 h3
    obtain ⟨s, e0, _, hs⟩ := DataW.trod_string Tryd.underlying9 h0
    obtain ⟨v1, l1, e1, r1, k1⟩ := open_phis h1
    obtain ⟨v2, l2, e2, r2, k2⟩ := open_insts h2
    obtain ⟨x0, x1, x2, m, _, _, g0, g1, g2⟩ := trod_struct3 Tryd.underlying37 h3
    simp [show Tryd.prog.cellsOf 34 = 1 by kernel_rfl, show Tryd.prog.cellsOf 3 = 1 by kernel_rfl, show Tryd.prog.cellsOf 35 = 2 by kernel_rfl] at g0 g1 g2
    obtain ⟨z0, f0, _, _⟩ := DataW.trod_int Tryd.underlying34 g0
    obtain ⟨z1, f1, _, _⟩ := DataW.trod_int Tryd.underlying3 g1
    obtain ⟨a, b, f2, f3⟩ := open_two g2
    simp at e0 e1 e2 f0 f1
    subst e0 e1 e2 f0 f1 f2 f3
    exact ⟨⟨s, (c1, l1), (c2, l2), z0, z1, a, b⟩, rfl, r1, k1, r2, k2, hs⟩) h
set_option maxRecDepth 10000 in
theorem open_func {r : Reach} {b0 : Nat} {v : Value} {d : DataW H} {p : List MemPlace} (hv : Value.okWide Tryd.prog w r b0 26 v) (h : DataW.Trod enc Tryd.prog w base spare held 26 v d p) :
    ∃ f : FuncM, v = f.val ∧ FuncAt w f := by
  obtain ⟨fuel, hx⟩ := h
  obtain ⟨y0, y1, y2, n', _, hl', h0, h1, h2⟩ := trod_struct3 Tryd.underlying26 hx
  rw [show Tryd.prog.cellsOf 26 = 3 by kernel_rfl] at hl'
  obtain ⟨c0, c1, c2, hc⟩ : ∃ c0 c1 c2, v.cells.toList = [c0, c1, c2] := by
    exact list3 hl'
  rw [hc] at h0 h1 h2
  simp [show Tryd.prog.cellsOf 22 = 1 by kernel_rfl, show Tryd.prog.cellsOf 23 = 1 by kernel_rfl, show Tryd.prog.cellsOf 24 = 1 by kernel_rfl] at h0 h1 h2
  obtain ⟨v0, l0, e0, r0, k0⟩ := open_vars h0
  obtain ⟨p1, e1, k1⟩ := open_ints h1
  obtain ⟨v2, l2, e2, r2, k2⟩ := open_blocks h2
  simp at e0 e1 e2
  subst e0 e1 e2
  have hv' : v = .agg #[c0, p1.1, c2] := by
    cases v <;> simp [Value.cells, Value.okWide, Tryd.underlying26] at hc hv ⊢
    rename_i cs
    obtain ⟨l⟩ := cs
    simpa using hc
  exact ⟨⟨(c0, l0), p1, (c2, l2)⟩, hv', r0, k0, k1, r2, k2⟩
end
end Go.Proofs.YtjllbchfojonhaaDoor
