/- A range by value that came in, opened. -/
import Derived.Test.YtppidnjhdefbiaaBase
import Derived.Test.YtppidnjhdefbiaaIvMath
import Derived.Lib.SmallJoins
namespace Go.Proofs.Ytppidnjhdefbiaa
open Go.ChangeShapes Go.WideShapes Go.ChangeAt Go.RowKit Go.Joins

set_option maxRecDepth 100000 in
theorem open_range {H : Type} {enc : TypeId × Value → H} {w : World} {base : Nat} {spare : Nat → Bool} {held : Bool} {r : Reach} {b0 : Nat} {v : Value} {d : DataW H} {p : List MemPlace}
    (hv : Value.okWide Try.prog w r b0 86 v) (h : DataW.Trod enc Try.prog w base spare held 86 v d p) : ∃ r : Iv.R, v = .agg #[.int .i64 r.lo, .int .i64 r.hi] ∧ Iv.Wf r := by
  have hC : Try.prog.cellsOf 86 = 2 := by kernel_rfl
  obtain ⟨v0, v1, y0, y1, n, rfl, _, _, h0, h1⟩ := open_agg2 (P := Try.prog) (t := 86) Try.underlying86 (by kernel_rfl) hC hv h
  obtain ⟨z0, e0, _, w0⟩ := DataW.trod_int Try.underlying2 h0
  obtain ⟨z1, e1, _, w1⟩ := DataW.trod_int Try.underlying2 h1
  simp at e0 e1
  subst e0 e1
  have k0 : Iv.MIN ≤ z0 ∧ z0 ≤ Iv.MAX := by simpa [Lit.wf, IntKind.min, IntKind.max, IntKind.signed, IntKind.bits, Iv.MIN, Iv.MAX] using w0
  have k1 : Iv.MIN ≤ z1 ∧ z1 ≤ Iv.MAX := by simpa [Lit.wf, IntKind.min, IntKind.max, IntKind.signed, IntKind.bits, Iv.MIN, Iv.MAX] using w1
  exact ⟨⟨z0, z1⟩, rfl, k0, k1⟩
end Go.Proofs.Ytppidnjhdefbiaa
