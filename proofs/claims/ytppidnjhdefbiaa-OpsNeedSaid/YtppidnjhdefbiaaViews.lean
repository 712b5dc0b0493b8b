/- Slices and structs that came in, opened to their cells. -/
import Derived.Test.YtppidnjhdefbiaaBase
import Derived.Deep.Slices
import Derived.Deep.Fields
namespace Go.Proofs.Ytppidnjhdefbiaa
open Go.ChangeShapes Go.WideShapes Go.ChangeAt Go.RowKit

theorem add_plain (b off k : Nat) : (⟨b, off, none⟩ : Addr).add k = ⟨b, off + k, none⟩ := by
  unfold Addr.add
  split
  · rename_i h; obtain ⟨rfl, _⟩ := h; rfl
  · rfl

section
variable {H : Type} {enc : TypeId × Value → H} {P : Program} {w : World} {base : Nat} {spare : Nat → Bool} {held : Bool}

theorem slice_view {t e : TypeId} {C fuel : Nat} {cs : List Value} {x : DataW H × List MemPlace} (ht : P.underlying t = some (.slice e)) (hC : P.cellsOf e = C) (hC0 : 0 < C)
    (h : DataW.trod enc P w base spare held fuel t cs = some x) :
    ∃ (a : Option Addr) (len cap : Nat), cs = [.slice a len cap] ∧ len ≤ cap ∧ cap ≤ maxLen ∧ (len = 0 ∨ ∃ b off, a = some ⟨b, off, none⟩ ∧ b < w.heap.size ∧
      ∀ i, i < len → ∃ (cs' : List Value) (n : Nat) (y : DataW H × List MemPlace), cs'.length = C ∧ (∀ j, j < C → w.cell? ⟨b, off + i * C + j, none⟩ = cs'[j]?) ∧ DataW.trod enc P w base spare held n e cs' = some y) := by
  rcases Go.Deep.open_slice ht h with ⟨rfl, _⟩ | ⟨a, len, cap, m, n, D, Pl, rfl, hb, hl, hm, hmm, _, hi⟩
  · exact ⟨none, 0, 0, rfl, Nat.le_refl _, by simp [maxLen], .inl rfl⟩
  · refine ⟨some a, len, cap, rfl, hl, hm, ?_⟩
    have hlm : len ≤ m := by rw [hmm]; split <;> omega
    rcases Nat.eq_zero_or_pos len with h0 | h0
    · exact .inl h0
    · right
      obtain ⟨b, off, spot⟩ := a
      have hs : spot = none ∧ b < w.heap.size := by
        obtain ⟨cs', h1, _⟩ := hi 0 (by omega)
        obtain ⟨_, hcl, hat⟩ := World.cells?_some h1
        have h2 := hat 0 (by omega)
        rw [List.getElem?_eq_getElem (by omega)] at h2
        have h3 := World.cell?_spot h2
        have h4 := World.block_lt_of_cell? w _ h2
        simpa [Addr.add] using And.intro h3 h4
      obtain ⟨rfl, hlt⟩ := hs
      refine ⟨b, off, rfl, hlt, fun i hil => ?_⟩
      obtain ⟨cs', h1, h2⟩ := hi i (by omega)
      obtain ⟨_, hcl, hat⟩ := World.cells?_some h1
      rw [hC] at hcl hat
      refine ⟨cs', n, _, hcl, fun j hj => ?_, h2⟩
      have h3 := hat j hj
      rw [Go.Deep.add_add] at h3
      rw [← h3]
      rw [add_plain, Nat.add_assoc]

/-- three ints -/
theorem struct3_ints {t : TypeId} {k0 k1 k2 : IntKind} {f0 f1 f2 : Field} {fuel : Nat} {cs : List Value} {x : DataW H × List MemPlace} (ht : P.underlying t = some (.struct #[f0, f1, f2]))
    (hone : Go.Deep.oneCellFields P #[f0, f1, f2] = true) (hcl : cs.length = 3) (u0 : P.underlying f0.type = some (.int k0)) (u1 : P.underlying f1.type = some (.int k1)) (u2 : P.underlying f2.type = some (.int k2))
    (h : DataW.trod enc P w base spare held fuel t cs = some x) : ∃ z0 z1 z2, cs = [.int k0 z0, .int k1 z1, .int k2 z2] ∧ (Lit.int k0 z0).wf = true ∧ (Lit.int k1 z1).wf = true ∧ (Lit.int k2 z2).wf = true := by
  obtain ⟨xs, n, _, _, _, hxl, hf⟩ := DataW.trod_struct ht h
  match cs, hcl with
  | [c0, c1, c2], _ =>
    have o0 := Go.Deep.hone_of hone 0 f0 rfl
    have o1 := Go.Deep.hone_of hone 1 f1 rfl
    have o2 := Go.Deep.hone_of hone 2 f2 rfl
    have g0 := hf 0 f0 rfl
    have g1 := hf 1 f1 rfl
    have g2 := hf 2 f2 rfl
    rw [o0.1, o0.2] at g0
    rw [o1.1, o1.2] at g1
    rw [o2.1, o2.2] at g2
    simp at g0 g1 g2 hxl
    rw [List.getElem?_eq_getElem (by omega)] at g0 g1 g2
    obtain ⟨z0, e0, _, w0⟩ := DataW.trod_int u0 g0
    obtain ⟨z1, e1, _, w1⟩ := DataW.trod_int u1 g1
    obtain ⟨z2, e2, _, w2⟩ := DataW.trod_int u2 g2
    simp at e0 e1 e2
    subst e0 e1 e2
    exact ⟨z0, z1, z2, rfl, w0, w1, w2⟩

/-- four ints -/
theorem struct4_ints {t : TypeId} {k0 k1 k2 k3 : IntKind} {f0 f1 f2 f3 : Field} {fuel : Nat} {cs : List Value} {x : DataW H × List MemPlace} (ht : P.underlying t = some (.struct #[f0, f1, f2, f3]))
    (hone : Go.Deep.oneCellFields P #[f0, f1, f2, f3] = true) (hcl : cs.length = 4) (u0 : P.underlying f0.type = some (.int k0)) (u1 : P.underlying f1.type = some (.int k1)) (u2 : P.underlying f2.type = some (.int k2)) (u3 : P.underlying f3.type = some (.int k3))
    (h : DataW.trod enc P w base spare held fuel t cs = some x) : ∃ z0 z1 z2 z3, cs = [.int k0 z0, .int k1 z1, .int k2 z2, .int k3 z3] ∧ (Lit.int k0 z0).wf = true ∧ (Lit.int k1 z1).wf = true ∧ (Lit.int k2 z2).wf = true ∧ (Lit.int k3 z3).wf = true := by
  obtain ⟨xs, n, _, _, _, hxl, hf⟩ := DataW.trod_struct ht h
  match cs, hcl with
  | [c0, c1, c2, c3], _ =>
    have o0 := Go.Deep.hone_of hone 0 f0 rfl
    have o1 := Go.Deep.hone_of hone 1 f1 rfl
    have o2 := Go.Deep.hone_of hone 2 f2 rfl
    have o3 := Go.Deep.hone_of hone 3 f3 rfl
    have g0 := hf 0 f0 rfl
    have g1 := hf 1 f1 rfl
    have g2 := hf 2 f2 rfl
    have g3 := hf 3 f3 rfl
    rw [o0.1, o0.2] at g0
    rw [o1.1, o1.2] at g1
    rw [o2.1, o2.2] at g2
    rw [o3.1, o3.2] at g3
    simp at g0 g1 g2 g3 hxl
    rw [List.getElem?_eq_getElem (by omega)] at g0 g1 g2 g3
    obtain ⟨z0, e0, _, w0⟩ := DataW.trod_int u0 g0
    obtain ⟨z1, e1, _, w1⟩ := DataW.trod_int u1 g1
    obtain ⟨z2, e2, _, w2⟩ := DataW.trod_int u2 g2
    obtain ⟨z3, e3, _, w3⟩ := DataW.trod_int u3 g3
    simp at e0 e1 e2 e3
    subst e0 e1 e2 e3
    exact ⟨z0, z1, z2, z3, rfl, w0, w1, w2, w3⟩
end

/-- a slice of three ints an element: what is known of it -/
def Sees3 (w : World) (a : Option Addr) (len : Nat) (z0 z1 z2 : Nat → Int) : Prop :=
  len = 0 ∨ ∃ b off, a = some ⟨b, off, none⟩ ∧ b < w.heap.size ∧ ∀ i, i < len → w.cell? ⟨b, off + i * 3, none⟩ = some (.int .i64 (z0 i)) ∧ w.cell? ⟨b, off + i * 3 + 1, none⟩ = some (.int .i64 (z1 i)) ∧ w.cell? ⟨b, off + i * 3 + 2, none⟩ = some (.int .i64 (z2 i))
def Sees4 (w : World) (a : Option Addr) (len : Nat) (z0 z1 z2 z3 : Nat → Int) : Prop :=
  len = 0 ∨ ∃ b off, a = some ⟨b, off, none⟩ ∧ b < w.heap.size ∧ ∀ i, i < len → w.cell? ⟨b, off + i * 4, none⟩ = some (.int .i64 (z0 i)) ∧ w.cell? ⟨b, off + i * 4 + 1, none⟩ = some (.int .i64 (z1 i)) ∧ w.cell? ⟨b, off + i * 4 + 2, none⟩ = some (.int .i64 (z2 i)) ∧ w.cell? ⟨b, off + i * 4 + 3, none⟩ = some (.int .i64 (z3 i))
def Sees1 (w : World) (a : Option Addr) (len : Nat) (z : Nat → Int) : Prop :=
  len = 0 ∨ ∃ b off, a = some ⟨b, off, none⟩ ∧ b < w.heap.size ∧ ∀ i, i < len → w.cell? ⟨b, off + i, none⟩ = some (.int .i64 (z i))

theorem wf_i64 {n : Int} (h : (Lit.int .i64 n).wf = true) : -9223372036854775808 ≤ n ∧ n ≤ 9223372036854775807 := by
  simpa [Lit.wf, IntKind.min, IntKind.max, IntKind.signed, IntKind.bits] using h

section
variable {H : Type} {enc : TypeId × Value → H} {w : World} {base : Nat} {spare : Nat → Bool} {held : Bool}
/-- a slice of the documents facts -/
theorem view_facts {fuel : Nat} {cs : List Value} {x : DataW H × List MemPlace} (h : DataW.trod enc Try.prog w base spare held fuel 31 cs = some x) :
    ∃ (a : Option Addr) (len cap : Nat) (z0 z1 z2 : Nat → Int), cs = [.slice a len cap] ∧ len ≤ cap ∧ cap ≤ maxLen ∧ Sees3 w a len z0 z1 z2 ∧ ∀ i, i < len → ((Lit.int .i64 (z0 i)).wf = true ∧ (Lit.int .i64 (z1 i)).wf = true ∧ (Lit.int .i64 (z2 i)).wf = true) := by
  obtain ⟨a, len, cap, rfl, hl, hm, hv⟩ := slice_view (C := 3) Try.underlying31 (by kernel_rfl) (by omega) h
  rcases hv with h0 | ⟨b, off, rfl, hb, hi⟩
  · exact ⟨a, len, cap, fun _ => 0, fun _ => 0, fun _ => 0, rfl, hl, hm, .inl h0, fun i hi => by omega⟩
  · have hz : ∀ i, i < len → ∃ z : Int × Int × Int, w.cell? ⟨b, off + i * 3, none⟩ = some (.int .i64 z.1) ∧ w.cell? ⟨b, off + i * 3 + 1, none⟩ = some (.int .i64 z.2.1) ∧ w.cell? ⟨b, off + i * 3 + 2, none⟩ = some (.int .i64 z.2.2) ∧
        ((Lit.int .i64 z.1).wf = true ∧ (Lit.int .i64 z.2.1).wf = true ∧ (Lit.int .i64 z.2.2).wf = true) := by
      intro i hil
      obtain ⟨cs', n, y, hcl, hat, ht⟩ := hi i hil
      obtain ⟨z0, z1, z2, rfl, w0, w1, w2⟩ := struct3_ints Try.underlying36 (by kernel_rfl) hcl Try.underlying3 Try.underlying3 Try.underlying2 ht
      exact ⟨(z0, z1, z2), by simpa using hat 0 (by omega), by simpa using hat 1 (by omega), by simpa using hat 2 (by omega), w0, w1, w2⟩
    obtain ⟨Z, hZ⟩ := Go.Deep.choose_lt hz
    exact ⟨_, len, cap, fun i => (Z i).1, fun i => (Z i).2.1, fun i => (Z i).2.2, rfl, hl, hm, .inr ⟨b, off, rfl, hb, fun i hi => ⟨(hZ i hi).1, (hZ i hi).2.1, (hZ i hi).2.2.1⟩⟩, fun i hi => (hZ i hi).2.2.2⟩
/-- a slice of acts -/
theorem view_acts {fuel : Nat} {cs : List Value} {x : DataW H × List MemPlace} (h : DataW.trod enc Try.prog w base spare held fuel 57 cs = some x) :
    ∃ (a : Option Addr) (len cap : Nat) (z0 z1 z2 z3 : Nat → Int), cs = [.slice a len cap] ∧ len ≤ cap ∧ cap ≤ maxLen ∧ Sees4 w a len z0 z1 z2 z3 ∧ ∀ i, i < len → ((Lit.int .i64 (z0 i)).wf = true ∧ (Lit.int .i64 (z1 i)).wf = true ∧ (Lit.int .i64 (z2 i)).wf = true ∧ (Lit.int .i64 (z3 i)).wf = true) := by
  obtain ⟨a, len, cap, rfl, hl, hm, hv⟩ := slice_view (C := 4) Try.underlying57 (by kernel_rfl) (by omega) h
  rcases hv with h0 | ⟨b, off, rfl, hb, hi⟩
  · exact ⟨a, len, cap, fun _ => 0, fun _ => 0, fun _ => 0, fun _ => 0, rfl, hl, hm, .inl h0, fun i hi => by omega⟩
  · have hz : ∀ i, i < len → ∃ z : Int × Int × Int × Int, w.cell? ⟨b, off + i * 4, none⟩ = some (.int .i64 z.1) ∧ w.cell? ⟨b, off + i * 4 + 1, none⟩ = some (.int .i64 z.2.1) ∧ w.cell? ⟨b, off + i * 4 + 2, none⟩ = some (.int .i64 z.2.2.1) ∧ w.cell? ⟨b, off + i * 4 + 3, none⟩ = some (.int .i64 z.2.2.2) ∧
        ((Lit.int .i64 z.1).wf = true ∧ (Lit.int .i64 z.2.1).wf = true ∧ (Lit.int .i64 z.2.2.1).wf = true ∧ (Lit.int .i64 z.2.2.2).wf = true) := by
      intro i hil
      obtain ⟨cs', n, y, hcl, hat, ht⟩ := hi i hil
      obtain ⟨z0, z1, z2, z3, rfl, w0, w1, w2, w3⟩ := struct4_ints Try.underlying60 (by kernel_rfl) hcl Try.underlying3 Try.underlying3 Try.underlying3 Try.underlying2 ht
      exact ⟨(z0, z1, z2, z3), by simpa using hat 0 (by omega), by simpa using hat 1 (by omega), by simpa using hat 2 (by omega), by simpa using hat 3 (by omega), w0, w1, w2, w3⟩
    obtain ⟨Z, hZ⟩ := Go.Deep.choose_lt hz
    exact ⟨_, len, cap, fun i => (Z i).1, fun i => (Z i).2.1, fun i => (Z i).2.2.1, fun i => (Z i).2.2.2, rfl, hl, hm, .inr ⟨b, off, rfl, hb, fun i hi => ⟨(hZ i hi).1, (hZ i hi).2.1, (hZ i hi).2.2.1, (hZ i hi).2.2.2.1⟩⟩, fun i hi => (hZ i hi).2.2.2.2⟩
/-- a slice of numbers -/
theorem view_nums {t e : TypeId} (ht : Try.prog.underlying t = some (.slice e)) (he : Try.prog.underlying e = some (.int .i64)) (hC : Try.prog.cellsOf e = 1) {fuel : Nat} {cs : List Value} {x : DataW H × List MemPlace} (h : DataW.trod enc Try.prog w base spare held fuel t cs = some x) :
    ∃ (a : Option Addr) (len cap : Nat) (z : Nat → Int), cs = [.slice a len cap] ∧ len ≤ cap ∧ cap ≤ maxLen ∧ Sees1 w a len z ∧ ∀ i, i < len → (Lit.int .i64 (z i)).wf = true := by
  obtain ⟨a, len, cap, rfl, hl, hm, hv⟩ := slice_view (C := 1) ht hC (by omega) h
  rcases hv with h0 | ⟨b, off, rfl, hb, hi⟩
  · exact ⟨a, len, cap, fun _ => 0, rfl, hl, hm, .inl h0, fun i hi => by omega⟩
  · have hz : ∀ i, i < len → ∃ z : Int, w.cell? ⟨b, off + i, none⟩ = some (.int .i64 z) ∧ (Lit.int .i64 z).wf = true := by
      intro i hil
      obtain ⟨cs', n, y, hcl, hat, ht⟩ := hi i hil
      obtain ⟨z, rfl, _, wz⟩ := DataW.trod_int he ht
      exact ⟨z, by simpa using hat 0 (by omega), wz⟩
    obtain ⟨Z, hZ⟩ := Go.Deep.choose_lt hz
    exact ⟨_, len, cap, Z, rfl, hl, hm, .inr ⟨b, off, rfl, hb, fun i hi => (hZ i hi).1⟩, fun i hi => (hZ i hi).2⟩
end
end Go.Proofs.Ytppidnjhdefbiaa
