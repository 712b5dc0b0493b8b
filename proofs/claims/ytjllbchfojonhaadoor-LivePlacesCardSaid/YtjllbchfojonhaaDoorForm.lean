/- Programs (api.Func) in memory: a plain mirror; what is kept; a program that came in, opened to its cells. -/
import Derived.Test.YtjllbchfojonhaaDoorMem
import Derived.Deep.Slices
import Derived.Deep.Strs
import Derived.Lib.SmallJoins
import Derived.OpenShut
namespace Go.Proofs.YtjllbchfojonhaaDoor
open Go.ChangeShapes Go.WideShapes Go.ChangeAt Go.RowKit
set_option linter.unusedVariables false

/-- a slice's elements, each of 'size' cells -/
def Row (w : World) (size : Nat) (v : Value) (es : List (List Value)) : Prop :=
  ∃ a cap, v = .slice a es.length cap ∧ es.length ≤ cap ∧ cap ≤ maxLen ∧ (es.length = 0 ∨ ∃ b off, a = some ⟨b, off, none⟩ ∧ b < w.heap.size ∧ ∀ j e, es[j]? = some e → ∀ i x, e[i]? = some x → w.cell? ⟨b, off + j * size + i, none⟩ = some x)
abbrev IntsM := Value × List Int
structure VarM where
  name : ByteArray
  type : Int
structure PhiM where
  dst : Int
  args : IntsM
  froms : IntsM
structure InstM where
  op : Int
  dst : Int
  args : IntsM
  num : Int
structure BlockM where
  name : ByteArray
  phis : Value × List PhiM
  insts : Value × List InstM
  kind : Int
  var : Int
  to0 : Int
  to1 : Int
structure FuncM where
  vars : Value × List VarM
  params : IntsM
  blocks : Value × List BlockM
def intCells (z : Int) : List Value := [.int .i64 z]
def VarM.cells (x : VarM) : List Value := [.string x.name, .int .i64 x.type]
def PhiM.cells (x : PhiM) : List Value := [.int .i64 x.dst, x.args.1, x.froms.1]
def InstM.cells (x : InstM) : List Value := [.int .i64 x.op, .int .i64 x.dst, x.args.1, .int .i64 x.num]
def BlockM.cells (x : BlockM) : List Value := [.string x.name, x.phis.1, x.insts.1, .int .i64 x.kind, .int .i64 x.var, .int .i64 x.to0, .int .i64 x.to1]
def FuncM.val (f : FuncM) : Value := .agg #[f.vars.1, f.params.1, f.blocks.1]
def IntsAt (w : World) (p : IntsM) : Prop := Row w 1 p.1 (p.2.map intCells)
def PhiAt (w : World) (p : PhiM) : Prop := IntsAt w p.args ∧ IntsAt w p.froms
def InstAt (w : World) (x : InstM) : Prop := IntsAt w x.args
structure BlockAt (w : World) (b : BlockM) : Prop where
  phis : Row w 3 b.phis.1 (b.phis.2.map PhiM.cells)
  phi : ∀ p ∈ b.phis.2, PhiAt w p
  insts : Row w 4 b.insts.1 (b.insts.2.map InstM.cells)
  inst : ∀ x ∈ b.insts.2, InstAt w x
  size : b.name.size ≤ maxLen
structure FuncAt (w : World) (f : FuncM) : Prop where
  vars : Row w 2 f.vars.1 (f.vars.2.map VarM.cells)
  names : ∀ v ∈ f.vars.2, v.name.size ≤ maxLen
  params : IntsAt w f.params
  blocks : Row w 7 f.blocks.1 (f.blocks.2.map BlockM.cells)
  block : ∀ b ∈ f.blocks.2, BlockAt w b

theorem Row.keep {w w' : World} {size : Nat} {v : Value} {es : List (List Value)} (h : Row w size v es) (k : Keeps w w' []) : Row w' size v es := by
  obtain ⟨a, cap, h1, h2, h3, h4⟩ := h
  refine ⟨a, cap, h1, h2, h3, ?_⟩
  rcases h4 with h4 | ⟨b, off, h5, h6, h7⟩
  · exact .inl h4
  · refine .inr ⟨b, off, h5, by have := k.size; omega, fun j e he i x hx => ?_⟩
    exact k.cellOf (h7 j e he i x hx)
theorem PhiAt.keep {w w' : World} {p : PhiM} (h : PhiAt w p) (k : Keeps w w' []) : PhiAt w' p := ⟨Row.keep h.1 k, Row.keep h.2 k⟩
theorem BlockAt.keep {w w' : World} {b : BlockM} (h : BlockAt w b) (k : Keeps w w' []) : BlockAt w' b :=
  ⟨h.phis.keep k, fun p hp => (h.phi p hp).keep k, h.insts.keep k, fun x hx => Row.keep (h.inst x hx) k, h.size⟩
theorem FuncAt.keep {w w' : World} {f : FuncM} (h : FuncAt w f) (k : Keeps w w' []) : FuncAt w' f :=
  ⟨h.vars.keep k, h.names, Row.keep h.params k, h.blocks.keep k, fun b hb => (h.block b hb).keep k⟩

section
variable {H : Type} {enc : TypeId × Value → H} {P : Program} {w : World} {base : Nat} {spare : Nat → Bool} {held : Bool}

theorem slice_view {t e : TypeId} {C fuel : Nat} {cs : List Value} {x : DataW H × List MemPlace} (ht : P.underlying t = some (.slice e)) (hC : P.cellsOf e = C) (hC0 : 0 < C)
    (h : DataW.trod enc P w base spare held fuel t cs = some x) :
    ∃ (a : Option Addr) (len cap : Nat), cs = [.slice a len cap] ∧ len ≤ cap ∧ cap ≤ maxLen ∧ (len = 0 ∨ ∃ b off, a = some ⟨b, off, none⟩ ∧ b < w.heap.size ∧
      ∀ i, i < len → ∃ (cs' : List Value) (n : Nat) (y : DataW H × List MemPlace), cs'.length = C ∧ (∀ j, j < C → w.cell? ⟨b, off + i * C + j, none⟩ = cs'[j]?) ∧ DataW.trod enc P w base spare held n e cs' = some y) := by
  rcases Go.Deep.open_slice ht h with ⟨rfl, _⟩ | ⟨a, len, cap, m, n, D, Pl, rfl, hb, hl, hm, hmm, _, hi⟩
  · exact ⟨none, 0, 0, rfl, Nat.le_refl _, by simp [maxLen], .inl rfl⟩
  · refine ⟨some a, len, cap, rfl, hl, hm, ?_⟩
    have hlm : len ≤ m := by rw [hmm]; split <;> omega
    rcases Nat.eq_zero_or_pos len with h0 | h0
    · exact .inl h0
    · right
      obtain ⟨b, off, spot⟩ := a
      have hs : spot = none ∧ b < w.heap.size := by
        obtain ⟨cs', h1, _⟩ := hi 0 (by omega)
        obtain ⟨_, hcl, hat⟩ := World.cells?_some h1
        have h2 := hat 0 (by omega)
        rw [List.getElem?_eq_getElem (by omega)] at h2
        have h3 := World.cell?_spot h2
        have h4 := World.block_lt_of_cell? w _ h2
        simpa [Addr.add] using And.intro h3 h4
      obtain ⟨rfl, hlt⟩ := hs
      refine ⟨b, off, rfl, hlt, fun i hil => ?_⟩
      obtain ⟨cs', h1, h2⟩ := hi i (by omega)
      obtain ⟨_, hcl, hat⟩ := World.cells?_some h1
      rw [hC] at hcl hat
      refine ⟨cs', n, _, hcl, fun j hj => ?_, h2⟩
      have h3 := hat j hj
      rw [Go.Deep.add_add] at h3
      rw [← h3]
      rw [add_plain, Nat.add_assoc]

/-- a slice whose elements are opened by some law, opened -/
theorem open_rows {M : Type} (cells : M → List Value) (At : M → Prop) {t e : TypeId} {C : Nat} (ht : P.underlying t = some (.slice e)) (hC : P.cellsOf e = C) (hC0 : 0 < C)
    (he : ∀ (n : Nat) (cs : List Value) (y : DataW H × List MemPlace), cs.length = C → DataW.trod enc P w base spare held n e cs = some y → ∃ m, cs = cells m ∧ At m)
    {fuel : Nat} {cs : List Value} {x : DataW H × List MemPlace} (h : DataW.trod enc P w base spare held fuel t cs = some x) :
    ∃ (v : Value) (l : List M), cs = [v] ∧ Row w C v (l.map cells) ∧ ∀ m ∈ l, At m := by
  obtain ⟨a, len, cap, rfl, hl, hm, hv⟩ := slice_view ht hC hC0 h
  rcases hv with rfl | ⟨b, off, rfl, hb, hi⟩
  · exact ⟨_, [], rfl, ⟨a, cap, rfl, by simp, hm, .inl rfl⟩, by simp⟩
  · have hz : ∀ i, i < len → ∃ m : M, At m ∧ (cells m).length = C ∧ ∀ j, j < C → w.cell? ⟨b, off + i * C + j, none⟩ = (cells m)[j]? := by
      intro i hil
      obtain ⟨cs', n, y, hcl, hat, ht'⟩ := hi i hil
      obtain ⟨m, rfl, hA⟩ := he n cs' y hcl ht'
      exact ⟨m, hA, hcl, hat⟩
    rcases Nat.eq_zero_or_pos len with rfl | hpos
    · exact ⟨_, [], rfl, ⟨_, cap, rfl, by simp, hm, .inl rfl⟩, by simp⟩
    obtain ⟨m0, _⟩ := hz 0 hpos
    have : Inhabited M := ⟨m0⟩
    obtain ⟨Z, hZ⟩ := Go.Deep.choose_lt hz
    refine ⟨_, (List.range len).map Z, rfl, ⟨some ⟨b, off, none⟩, cap, by simp, by simpa using hl, hm, .inr ⟨b, off, rfl, hb, fun j e he i x hx => ?_⟩⟩, fun m hm => ?_⟩
    · simp only [List.map_map, List.getElem?_map, Option.map_eq_some_iff] at he
      obtain ⟨k, hk, rfl⟩ := he
      obtain ⟨hlt, rfl⟩ : j < len ∧ j = k := by
        rw [List.getElem?_eq_some_iff] at hk
        obtain ⟨h1, h2⟩ := hk
        simp at h1 h2
        exact ⟨h1, h2⟩
      have hi2 : i < C := by
        rw [← (hZ j hlt).2.1]
        exact (List.getElem?_eq_some_iff.1 hx).1
      rw [(hZ j hlt).2.2 i hi2]
      exact hx
    · simp only [List.mem_map, List.mem_range] at hm
      obtain ⟨i, hil, rfl⟩ := hm
      exact (hZ i hil).1
end
end Go.Proofs.YtjllbchfojonhaaDoor
