/- Programs of the same content; the made program: its shape, types, length (plain). -/
import Derived.Test.YtjllbchfojonhaaGreatDoorMG
namespace Go.Proofs.YtjllbchfojonhaaGreatDoor
set_option linter.unusedVariables false
set_option linter.unusedSimpArgs false
/-- what the made program has in a block -/
noncomputable def madeI (f : FuncM) (b : Nat) : List InstM := mkL (fun j => !guardD f b j) f.blocks.2[b]!.insts.2 f.blocks.2[b]!.insts.2.length
theorem list_ext_bang {α β : Type} [Inhabited α] [Inhabited β] {g : α → β} {l m : List α} (h : l.length = m.length) (hk : ∀ k, k < l.length → g l[k]! = g m[k]!) : l.map g = m.map g := by
 refine List.ext_getElem (by simpa using h) fun k h1 h2 => ?_
 rw [List.length_map] at h1 h2
 have := hk k h1
 rw [getElem!_pos l k h1, getElem!_pos m k h2] at this
 rw [List.getElem_map, List.getElem_map]; exact this
theorem made_of {f g : FuncM} (h : ProgS (madeI f) f g) : MadeP (fun b j => !guardD f b j) f g := by
 refine ⟨h.nb, fun b hb => ?_⟩
 have hB := h.blk b hb
 refine ⟨list_ext_bang hB.plen.symm fun k hk => (hB.phi k hk).1, hB.kind, hB.to0, hB.to1, hB.ilen, fun k hk => hB.ins k (by rw [← hB.ilen]; exact hk)⟩
end Go.Proofs.YtjllbchfojonhaaGreatDoor
