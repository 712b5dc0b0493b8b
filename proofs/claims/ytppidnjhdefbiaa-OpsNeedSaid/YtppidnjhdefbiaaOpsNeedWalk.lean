/- Package ops: the walk of the law OpsNeed, joined; an instruction that came in, opened. -/
import Derived.Test.YtppidnjhdefbiaaOpsNeedYes
import Derived.Test.YtppidnjhdefbiaaViews
import Derived.Lib.SmallJoins
namespace Go.Proofs.Ytppidnjhdefbiaa
open Go.ChangeShapes Go.WideShapes Go.ChangeAt Go.RowKit Go.Joins
set_option linter.unusedVariables false

theorem raw_cases {op : Int} (h : rawB op = true) : op = 5 ∨ op = 6 ∨ op = 12 ∨ op = 13 ∨ op = 14 ∨ op = 15 := by
  by_cases hn : op = 5 ∨ op = 6 ∨ op = 12 ∨ op = 13 ∨ op = 14 ∨ op = 15
  · exact hn
  · exfalso
    unfold rawB at h
    rw [place_no (l := raws) (v := op) (fun j hj => by
      have : j < 6 := hj
      match j, this with
      | 0, _ => simp [raws]; omega
      | 1, _ => simp [raws]; omega
      | 2, _ => simp [raws]; omega
      | 3, _ => simp [raws]; omega
      | 4, _ => simp [raws]; omega
      | 5, _ => simp [raws]; omega)] at h
    revert h; decide

set_option maxRecDepth 100000 in
theorem open_inst {H : Type} {enc : TypeId × Value → H} {w : World} {base : Nat} {spare : Nat → Bool} {held : Bool} {r : Reach} {b0 : Nat} {v : Value} {d : DataW H} {p : List MemPlace}
    (hv : Value.okWide Try.prog w r b0 77 v) (h : DataW.Trod enc Try.prog w base spare held 77 v d p) :
    ∃ (op dst num : Int) (sa : Option Addr) (len cap : Nat) (z : Nat → Int), v = .agg #[.int .i64 op, .int .i64 dst, .slice sa len cap, .int .i64 num] ∧ len ≤ cap ∧ cap ≤ maxLen ∧ Sees1 w sa len z := by
  have hC : Try.prog.cellsOf 77 = 4 := by kernel_rfl
  obtain ⟨v0, v1, v2, v3, y0, y1, y2, y3, n, rfl, _, _, h0, h1, h2, h3⟩ := open_agg4 (P := Try.prog) (t := 77) Try.underlying77 (by kernel_rfl) hC hv h
  obtain ⟨z0, e0, _, _⟩ := DataW.trod_int Try.underlying44 h0
  obtain ⟨z1, e1, _, _⟩ := DataW.trod_int Try.underlying3 h1
  obtain ⟨sa, len, cap, z, e2, hl, hm, hs, _⟩ := view_nums Try.underlying58 Try.underlying3 (by kernel_rfl) h2
  obtain ⟨z3, e3, _, _⟩ := DataW.trod_int Try.underlying2 h3
  simp at e0 e1 e2 e3
  subst e0 e1 e2 e3
  exact ⟨z0, z1, z3, sa, len, cap, z, rfl, hl, hm, hs⟩

theorem walkOpsNeed (op dst num : Int) (sa : Option Addr) (len cap : Nat) (z : Nat → Int) (hl : len ≤ cap) (hm : cap ≤ maxLen) (w : World) (hs : Sees1 w sa len z) :
    Calls Try.prog 14 #[.agg #[.int .i64 op, .int .i64 dst, .slice sa len cap, .int .i64 num]] w fun e w' => e = .returned (.bool true) ∧ Below w.heap.size w w' := by
  by_cases h10 : 10 < len
  · exact need_long op dst num sa len cap h10 w
  cases hr : rawB op
  · exact need_no op dst num sa len cap (by omega) hr w
  rcases raw_cases hr with rfl | rfl | rfl | rfl | rfl | rfl
  · by_cases h : len < 2
    · exact need_short5 dst num sa len cap h w
    · rcases hs with h0 | ⟨b, off, rfl, _, hz⟩
      · omega
      · exact need_yes5 dst num b off len cap (by omega) (by omega) hl hm z w hz
  · by_cases h : len < 2
    · exact need_short6 dst num sa len cap h w
    · rcases hs with h0 | ⟨b, off, rfl, _, hz⟩
      · omega
      · exact need_yes6 dst num b off len cap (by omega) (by omega) hl hm z w hz
  · by_cases h : len < 1
    · exact need_short12 dst num sa len cap h w
    · rcases hs with h0 | ⟨b, off, rfl, _, hz⟩
      · omega
      · exact need_yes12 dst num b off len cap (by omega) (by omega) hl hm z w hz
  · by_cases h : len < 2
    · exact need_short13 dst num sa len cap h w
    · rcases hs with h0 | ⟨b, off, rfl, _, hz⟩
      · omega
      · exact need_yes13 dst num b off len cap (by omega) (by omega) hl hm z w hz
  · by_cases h : len < 3
    · exact need_short14 dst num sa len cap h w
    · rcases hs with h0 | ⟨b, off, rfl, _, hz⟩
      · omega
      · exact need_yes14 dst num b off len cap (by omega) (by omega) hl hm z w hz
  · by_cases h : len < 1
    · exact need_short15 dst num sa len cap h w
    · rcases hs with h0 | ⟨b, off, rfl, _, hz⟩
      · omega
      · exact need_yes15 dst num b off len cap (by omega) (by omega) hl hm z w hz
end Go.Proofs.Ytppidnjhdefbiaa
