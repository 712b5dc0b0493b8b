/- A program with the checks that it lacks (the document's Make): what the loops keep (plain facts of memory). -/
import Derived.Test.YtjllbchfojonhaaGreatDoorCQ1
import Derived.Test.YtjllbchfojonhaaGreatDoorMD
import Derived.Test.YtjllbchfojonhaaGreatDoorHN
namespace Go.Proofs.YtjllbchfojonhaaGreatDoor
open Go.RowKit
set_option linter.unusedVariables false
set_option linter.unusedSimpArgs false
noncomputable def mkJ (f : FuncM) (b j : Nat) : List InstM := mkL (fun j => !guardD f b j) f.blocks.2[b]!.insts.2 j
theorem mkJ_zero (f : FuncM) (b : Nat) : mkJ f b 0 = [] := rfl
theorem mkJ_all (f : FuncM) (b : Nat) : mkJ f b f.blocks.2[b]!.insts.2.length = madeI f b := rfl
theorem mkJ_no {f : FuncM} {b j : Nat} (h : guardD f b j = true) : mkJ f b (j + 1) = mkJ f b j ++ [f.blocks.2[b]!.insts.2[j]!] := by
 unfold mkJ; rw [mkL_succ]; simp [mkO, h]
theorem mkJ_yes {f : FuncM} {b j : Nat} (h : guardD f b j = false) : mkJ f b (j + 1) = mkJ f b j ++ [needI f.blocks.2[b]!.insts.2[j]!] ++ [f.blocks.2[b]!.insts.2[j]!] := by
 unfold mkJ; rw [mkL_succ]; simp [mkO, h]
theorem mkJ_len (f : FuncM) (b : Nat) : ∀ j, (mkJ f b j).length ≤ 2 * j := fun j => by
 induction j with
 | zero => exact Nat.le_refl _
 | succ j ih => cases h : guardD f b j with
  | true => rw [mkJ_no h, List.length_append, List.length_singleton]; omega
  | false => rw [mkJ_yes h, List.length_append, List.length_append, List.length_singleton, List.length_singleton]; omega
/-- the instructions so far -/
structure InsQ (f : FuncM) (base : Nat) (W : World) (v : Value) (L xs : List InstM) : Prop where
 row : W.ownsRow base 43 4 v xs.length (xs.map InstM.cells).flatten
 arg : ∀ x ∈ xs, ∀ W, FuncAt W f → IntsAt W x.args
 len : xs.length = L.length
 same : ∀ k, k < L.length → SameI xs[k]! L[k]!
theorem InsQ.tk {f : FuncM} {base : Nat} {W W' : World} {v : Value} {L xs : List InstM} (h : InsQ f base W v L xs) (k43 : TyK 43 W W') : InsQ f base W' v L xs := ⟨own_tk h.row k43, h.arg, h.len, h.same⟩
theorem InsQ.keep {f : FuncM} {base : Nat} {W W' : World} {v : Value} {L xs : List InstM} (h : InsQ f base W v L xs) (k : Keeps W W' []) : InsQ f base W' v L xs := h.tk (tk_keeps k)
theorem InsQ.snoc {f : FuncM} {base : Nat} {W W' : World} {v v' : Value} {L xs : List InstM} {x y : InstM} (h : InsQ f base W v L xs) (hr : W'.ownsRow base 43 4 v' (xs.length + 1) ((xs.map InstM.cells).flatten ++ x.cells))
  (ha : ∀ W, FuncAt W f → IntsAt W x.args) (hs : SameI x y) : InsQ f base W' v' (L ++ [y]) (xs ++ [x]) := by
 refine ⟨by rw [List.length_append, List.map_append, List.flatten_append]; simpa using hr, fun p hp => ?_, by rw [List.length_append, List.length_append, h.len]; rfl, fun k hk => ?_⟩
 ·rcases List.mem_append.1 hp with hp | hp
  ·exact h.arg p hp
  ·rw [List.mem_singleton.1 hp]; exact ha
 ·rw [List.length_append, List.length_singleton] at hk
  by_cases e : k = L.length
  ·have h2 : (L ++ [y])[k]! = y := by rw [e]; exact bang_last L y
   have h3 : (xs ++ [x])[k]! = x := by rw [e, ← h.len]; exact bang_last xs x
   rw [h2, h3]; exact hs
  ·rw [bang_snoc L y (by omega), bang_snoc xs x (by rw [h.len]; omega)]; exact h.same k (by omega)
/-- the blocks so far -/
structure MakeI (W0 W : World) (L4 : Nat) (bv : Value) (tg : Nat) (th : List Bool) (f : FuncM) (zs : List BlockM) : Prop where
 box : Blk W L4 26 #[f.vars.1, f.params.1, bv]
 tb : Blk W tg 4 (bitsR th)
 rows : W.ownsRow W0.heap.size 38 7 bv zs.length (zs.map BlockM.cells).flatten
 own : ∀ k, k < zs.length → W.ownsRow W0.heap.size 43 4 zs[k]!.insts.1 zs[k]!.insts.2.length (zs[k]!.insts.2.map InstM.cells).flatten
 arg : ∀ k, k < zs.length → ∀ x ∈ zs[k]!.insts.2, ∀ W, FuncAt W f → IntsAt W x.args
 ph : ∀ k, k < zs.length → zs[k]!.phis = f.blocks.2[k]!.phis
 same : ∀ k, k < zs.length → BlkS (madeI f k) f.blocks.2[k]! zs[k]!
 low : W0.heap.size ≤ L4
 k : Keeps W0 W []
section
variable {W0 W W' : World} {L4 tg : Nat} {bv bv' : Value} {th : List Bool} {f : FuncM} {zs : List BlockM}
theorem MakeI.keep (h : MakeI W0 W L4 bv tg th f zs) (k : Keeps W W' []) : MakeI W0 W' L4 bv tg th f zs :=
 ⟨h.box.keep k (by simp), h.tb.keep k (by simp), own_keep h.rows k (by simp), fun j hj => own_keep (h.own j hj) k (by simp), h.arg, h.ph, h.same, h.low, h.k.and_then k⟩
theorem MakeI.snoc {o : Obj} {W3 : World} (h : MakeI W0 W L4 bv tg th f zs) {z : BlockM} (ho : W.ownsRow W0.heap.size 43 4 z.insts.1 z.insts.2.length (z.insts.2.map InstM.cells).flatten) (ha : ∀ x ∈ z.insts.2, ∀ W, FuncAt W f → IntsAt W x.args)
  (hp : z.phis = f.blocks.2[zs.length]!.phis) (hs : BlkS (madeI f zs.length) f.blocks.2[zs.length]! z) (hg : (W.alloc o).grownBy W3 bv.ownBlock) (hr : W3.ownsRow W0.heap.size 38 7 bv' (zs.length + 1) ((zs.map BlockM.cells).flatten ++ z.cells)) :
  MakeI W0 (W3.setCell ⟨L4, 2, none⟩ bv') L4 bv' tg th f (zs ++ [z]) := by
 have ka : Keeps W (W.alloc o) [] := (Keeps.refl W []).alloc o
 have hrow := own_keep h.rows ka (by simp)
 have hb3 : Blk W3 L4 26 #[f.vars.1, f.params.1, bv] := blk_grown0 (h.box.keep ka (by simp)) hrow (by decide) hg
 have T : ∀ t : TypeId, t ≠ 38 → t ≠ 26 → TyK t W (W3.setCell ⟨L4, 2, none⟩ bv') := fun t h1 h2 => ((tk_keeps ka).trans (tk_grown hrow (fun e => h1 e.symm) hg)).trans (tk_set hb3 (fun e => h2 e.symm))
 refine ⟨hb3.set_ 2 bv', T 4 (by decide) (by decide) _ _ h.tb, ?_, fun j hj => ?_, fun j hj => ?_, fun j hj => ?_, fun j hj => ?_, h.low, ?_⟩
 ·rw [List.length_append, List.map_append, List.flatten_append]
  have h9 := own_tk hr (tk_set (T := 38) (i := 2) (u := bv') hb3 (by decide))
  simpa using h9
 ·rw [List.length_append, List.length_singleton] at hj
  have T43 := T 43 (by decide) (by decide)
  by_cases e : j = zs.length
  ·rw [e, bang_last]; exact own_tk ho T43
  ·rw [bang_snoc zs z (by omega)]; exact own_tk (h.own j (by omega)) T43
 ·rw [List.length_append, List.length_singleton] at hj
  by_cases e : j = zs.length
  ·rw [e, bang_last]; exact ha
  ·rw [bang_snoc zs z (by omega)]; exact h.arg j (by omega)
 ·rw [List.length_append, List.length_singleton] at hj
  by_cases e : j = zs.length
  ·rw [e, bang_last]; exact hp
  ·rw [bang_snoc zs z (by omega)]; exact h.ph j (by omega)
 ·rw [List.length_append, List.length_singleton] at hj
  by_cases e : j = zs.length
  ·rw [e, bang_last]; exact hs
  ·rw [bang_snoc zs z (by omega)]; exact h.same j (by omega)
 ·exact (keeps_grown h.k h.rows (Nat.le_refl _) hg).setCell (.inr h.low) _
theorem MakeI.done {W1 : World} (h : MakeI W0 W L4 bv tg th f zs) (hn : zs.length = f.nb) (hf : FuncAt W1 f) (k : TyK 43 W W1) (k38 : TyK 38 W W1) : FuncAt W1 (⟨f.vars, f.params, (bv, zs)⟩ : FuncM) ∧ ProgS (madeI f) f (⟨f.vars, f.params, (bv, zs)⟩ : FuncM) := by
 refine ⟨⟨hf.vars, hf.names, hf.params, ?_, fun z hz => ?_⟩, rfl, rfl, hn, fun b hb => h.same b (by rw [hn]; exact hb)⟩
 ·exact row_flat (fun l hl => by obtain ⟨z, _, rfl⟩ := List.mem_map.1 hl; rfl) (by decide) (by have h9 := own_tk h.rows k38; rw [← List.length_map (f := BlockM.cells)] at h9; simpa using h9)
 ·obtain ⟨j, hj, rfl⟩ : ∃ j, j < zs.length ∧ zs[j]! = z := by
   obtain ⟨j, hj, e⟩ := List.mem_iff_getElem.1 hz
   exact ⟨j, hj, by rw [getElem!_pos zs j hj]; exact e⟩
  have hy := hf.block _ (bang_mem (l := f.blocks.2) (k := j) (by have h8 := hn; show j < f.nb; omega))
  have hp := h.ph j hj
  have hB := h.same j hj
  refine ⟨by rw [hp]; exact hy.phis, by rw [hp]; exact hy.phi, ?_, fun x hx => h.arg j hj x hx _ hf, by rw [hB.name]; exact hy.size⟩
  exact row_flat (fun l hl => by obtain ⟨z, _, rfl⟩ := List.mem_map.1 hl; rfl) (by decide) (by have h9 := own_tk (h.own j hj) k; simpa using h9)
end
end Go.Proofs.YtjllbchfojonhaaGreatDoor
