/- The document's blocks that are reached: From; contract. -/
import Derived.Test.YtjllbchfojonhaaGreatDoorGB
import Derived.Test.YtjllbchfojonhaaGreatDoorDfsLaw
import Derived.Deep.CutBlock
import Derived.Deep.Cut
namespace Go.Proofs.YtjllbchfojonhaaGreatDoor
open Go.RowKit
set_option linter.unusedVariables false
set_option linter.unusedSimpArgs false

def bitsR (l : List Bool) : Array Value := (l.map Value.bool).toArray
theorem bitsR_at {l : List Bool} {k : Nat} (hk : k < l.length) : (bitsR l)[k]? = some (.bool l[k]!) := by
  unfold bitsR
  rw [List.getElem?_toArray, List.getElem?_map, List.getElem?_eq_getElem hk, getElem!_pos l k hk]; rfl
theorem bitsR_set (l : List Bool) (k : Nat) (b : Bool) : (bitsR l).setIfInBounds k (.bool b) = bitsR (l.set k b) := by
  unfold bitsR
  rw [List.setIfInBounds_toArray, List.map_set]
theorem made_bits (q : Nat) : madeCells (Value.bool false).cells q = bitsR (List.replicate q false) := by
  unfold bitsR
  apply Array.ext
  · rw [size_madeCells]; simp
  · intro i h1 h2
    unfold madeCells
    simp [Value.cells, Nat.mod_one]
theorem info4r : (Tryz.prog.info? 4).map (fun i => (i.zero, i.size, i.bytes)) = some (some (.bool false), 1, 1) := by kernel_rfl
theorem make_bools (q : Nat) (hq : q ≤ 1000) (w : World) : (Instr.makeSlice 39 (.int .i64 (q : Int)) (.int .i64 (q : Int))).run Tryz.prog w = .ok (.slice (some ⟨w.heap.size, 0, none⟩) q q) (w.alloc (.cells (bitsR (List.replicate q false)) 4)) := by
  obtain ⟨i, hi, he⟩ := Option.map_eq_some_iff.1 info4r
  simp only [Prod.mk.injEq] at he
  obtain ⟨hz, hsz, hby⟩ := he
  have hr := Go.run_makeSlice (P := Tryz.prog) (w := w) 39 4 i (.bool false) (by kernel_rfl) hi hz .i64 .i64 (q : Int) (q : Int) (by omega) (Int.le_refl _) (by rw [hsz]; omega) (by rw [hby]; omega) (by omega)
  rw [hsz, Int.toNat_natCast, Nat.mul_one, made_bits] at hr
  exact hr
/-! plain -/
def succF (f : FuncM) (a : Nat) : List Nat := (List.range f.nb).filter fun c => leadsM f.blocks.2[a]! (c : Int)
theorem succF_mem {f : FuncM} {a c : Nat} : c ∈ succF f a ↔ c < f.nb ∧ leadsM f.blocks.2[a]! (c : Int) = true := by
  unfold succF; rw [List.mem_filter, List.mem_range]
def R1 (f : FuncM) (y : Nat) : Prop := ∃ x, x < f.nb ∧ RWay (succF f) x ∧ y ∈ succF f x
structure FromI (f : FuncM) (l : List Bool) : Prop where
  len : l.length = f.nb
  ok : ∀ y, y < f.nb → l[y]! = true → R1 f y
def FromC (f : FuncM) (l : List Bool) (x : Nat) : Prop := (x = 0 ∨ l[x]! = true) → ∀ y ∈ succF f x, l[y]! = true
theorem from_start (f : FuncM) : FromI f (List.replicate f.nb false) :=
  ⟨by simp, fun y hy h => by rw [getElem!_pos _ y (by simpa using hy)] at h; simp at h⟩
theorem rway_to {f : FuncM} {y : Nat} (h : R1 f y) : RWay (succF f) y := by obtain ⟨x, _, h1, h2⟩ := h; exact .step h1 h2
theorem from_set {f : FuncM} {l : List Bool} (h : FromI f l) {x y : Nat} (hx : x < f.nb) (hxr : x = 0 ∨ l[x]! = true) (hy : y < f.nb) (hl : leadsM f.blocks.2[x]! (y : Int) = true) : FromI f (l.set y true) := by
  refine ⟨by simp [h.len], fun z hz hh => ?_⟩
  rw [lb_set (by rw [h.len]; exact hy)] at hh
  by_cases e : z = y
  · subst e
    refine ⟨x, hx, ?_, succF_mem.2 ⟨hy, hl⟩⟩
    rcases hxr with rfl | hxr
    · exact .start
    · exact rway_to (h.ok x hx hxr)
  · rw [if_neg e] at hh; exact h.ok z hz hh
theorem from_done {f : FuncM} {l : List Bool} (h : FromI f l) (hp : 0 < f.nb) (hc : ∀ x, x < f.nb → FromC f l x) {y : Nat} (hy : y < f.nb) : l[y]! = true ↔ R1 f y := by
  refine ⟨h.ok y hy, fun ⟨x, hx, hr, hs⟩ => ?_⟩
  have key : ∀ a, RWay (succF f) a → a < f.nb ∧ (a = 0 ∨ l[a]! = true) := fun a ha => by
    induction ha with
    | start => exact ⟨hp, .inl rfl⟩
    | @step a c _ hs ih => exact ⟨(succF_mem.1 hs).1, .inr (hc a ih.1 ih.2 c hs)⟩
  exact hc x hx (key x hr).2 y hs
end Go.Proofs.YtjllbchfojonhaaGreatDoor
