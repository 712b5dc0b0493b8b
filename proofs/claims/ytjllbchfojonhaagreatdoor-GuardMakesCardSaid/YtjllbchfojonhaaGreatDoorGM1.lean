/- guard.Make: what its walk wants (plain facts). -/
import Derived.Test.YtjllbchfojonhaaGreatDoorMP
import Derived.Test.YtjllbchfojonhaaGreatDoorRDR
namespace Go.Proofs.YtjllbchfojonhaaGreatDoor
open Go.RowKit
set_option linter.unusedVariables false
set_option linter.unusedSimpArgs false
theorem inst_one {base : Nat} {W : World} {z : BlockM} (h : OwnZ base W z) (x : InstM) (hx : x ∈ z.insts.2) (u : Value) (hu : u ∈ x.cells) : u.oneCell' = true := by
 obtain ⟨a, c, e, -, -⟩ := own_form (h.inst x hx)
 unfold InstM.cells at hu
 rw [e] at hu
 simp at hu
 rcases hu with rfl | rfl | rfl | rfl <;> rfl
theorem sum_le {f : FuncM} (hfew : FewP f) : ∀ k, k ≤ f.nb → phT f k ≤ 1000 * k ∧ inT f k ≤ 1000 * k := fun k => by
 induction k with
 | zero => intro _; simp [phT, inT]
 | succ k ih =>
  intro hk
  obtain ⟨h1, h2⟩ := ih (by omega)
  have h3 := hfew.block _ (bang_mem (l := f.blocks.2) (k := k) (show k < f.blocks.2.length from hk))
  rw [phT_step f k hk, inT_step f k hk]
  omega
theorem fewPh_all : ∀ (l : List PhiM) (n : Nat), (fewPh l n).isSome = true → ∀ p ∈ l, p.args.2.length ≤ 400 ∧ p.froms.2.length ≤ 400
 | [], _, _ => by simp
 | p :: l, n, h => fun q hq => by
  unfold fewPh at h
  split at h
  ·cases h
  ·rcases List.mem_cons.1 hq with rfl | hq
   ·omega
   ·exact fewPh_all l _ h q hq
theorem fewIn_all : ∀ (l : List InstM) (n : Nat), (fewIn l n).isSome = true → ∀ p ∈ l, p.args.2.length ≤ 400
 | [], _, _ => by simp
 | p :: l, n, h => fun q hq => by
  unfold fewIn at h
  split at h
  ·cases h
  ·rcases List.mem_cons.1 hq with rfl | hq
   ·omega
   ·exact fewIn_all l _ h q hq
theorem fewBl_args : ∀ (l : List BlockM) (n : Nat), (fewBl l n).isSome = true → ∀ b ∈ l, (∀ p ∈ b.phis.2, p.args.2.length ≤ 400 ∧ p.froms.2.length ≤ 400) ∧ ∀ x ∈ b.insts.2, x.args.2.length ≤ 400
 | [], _, _ => by simp
 | b :: l, n, h => fun c hc => by
  unfold fewBl fewOne at h
  split at h
  ·cases h
  ·obtain ⟨z, hz⟩ := Option.isSome_iff_exists.1 h
   obtain ⟨m, h1, hm⟩ := Option.bind_eq_some_iff.1 hz
   obtain ⟨m2, h2, hm2⟩ := Option.bind_eq_some_iff.1 hm
   split at hm2
   ·cases hm2
   ·rcases List.mem_cons.1 hc with rfl | hc
    ·exact ⟨fewPh_all _ _ (by rw [h1]; rfl), fewIn_all _ _ (by rw [h2]; rfl)⟩
    ·exact fewBl_args l m2 (by rw [hm2]; rfl) c hc
theorem copy_few {f : FuncM} (h : fewB f = true) : CopyB f := by
 have hF := few_p h
 unfold fewB at h
 split at h
 ·cases h
 obtain ⟨z, hz⟩ := Option.isSome_iff_exists.1 h
 obtain ⟨n, _, hn⟩ := Option.bind_eq_some_iff.1 hz
 have h4 := fewBl_args _ n (by rw [hn]; rfl)
 have hnv := hF.nv
 have hnp := hF.np
 have hnb := hF.nb
 refine ⟨by omega, by omega, by omega, fun b hb => ?_, fun b hb => ?_⟩
 ·have hm := bang_mem (l := f.blocks.2) hb
  have h5 := hF.block _ hm
  exact ⟨by omega, fun p hp => by have := (h4 _ hm).1 p hp; omega⟩
 ·have hm := bang_mem (l := f.blocks.2) hb
  have h5 := hF.block _ hm
  exact ⟨by omega, fun p hp => by have := (h4 _ hm).2 p hp; omega⟩
theorem GmI.of_copy {w w' W : World} {L9 : Nat} {f c : FuncM} {zs : List (Nat × Nat)} (h : CopyRet w w' f c) (k : ∀ T, TyK T w' W) (hb : Blk W L9 26 #[c.vars.1, c.params.1, c.blocks.1]) : GmI w.heap.size W L9 f c (contE f zs []) :=
 ⟨hb, own_tk h.vars (k _), own_tk h.pars (k _), own_tk h.rows (k _), fun b hb => (h.own b hb).tk (k _) (k _) (k _), h.apart, h.same⟩
/-- an instruction of the copy, in memory -/
theorem GmI.look {n0 : Nat} {W : World} {L9 : Nat} {f c : FuncM} {E : Nat → List InstM} (h : GmI n0 W L9 f c E) {b i : Nat} (hb : b < f.nb) (hi : i < (E b).length) :
  ∃ g38 c38 q cq x0, c.blocks.1 = .slice (some ⟨g38, 0, none⟩) f.nb c38 ∧ c.blocks.1.ownBlock = some g38 ∧ n0 ≤ g38 ∧ g38 < W.heap.size ∧ f.nb ≤ c38 ∧ c38 ≤ maxLen ∧ c.blocks.2[b]!.insts.1 = .slice (some ⟨q, 0, none⟩) (E b).length cq ∧ n0 ≤ q ∧ (E b).length ≤ cq ∧ cq ≤ maxLen ∧
   W.cell? ⟨g38, b * 7 + 2, none⟩ = some (.slice (some ⟨q, 0, none⟩) (E b).length cq) ∧ W.frozen? ⟨g38, b * 7 + 2, none⟩ = false ∧ (∀ k v, x0.cells[k]? = some v → W.cell? ⟨q, i * 4 + k, none⟩ = some v) ∧ InstAt W x0 ∧ SameI x0 (E b)[i]! ∧
   W.ownsRow n0 43 4 c.blocks.2[b]!.insts.1 (E b).length (c.blocks.2[b]!.insts.2.map InstM.cells).flatten ∧ g38 ≠ q ∧ (∃ cs38, Blk W g38 38 cs38 ∧ cs38[b * 7 + 2]? = some (.slice (some ⟨q, 0, none⟩) (E b).length cq)) ∧ ∃ cs43, Blk W q 43 cs43 := by
 have hcn : c.nb = f.nb := h.same.nb
 have hB := h.same.blk b hb
 have hoz := h.own b (by omega)
 obtain ⟨g38, c38, e38, hg, ho38, h1, h2, h3, h4, h5⟩ := own_cellC h.rows (by omega)
 have hins := hoz.insts
 have hxl : c.blocks.2[b]!.insts.2.length = (E b).length := hB.ilen
 rw [hxl] at hins
 obtain ⟨q, cq, eq, hq, hoq, q1, q2, q3, q4, q5⟩ := own_cellC hins (by omega)
 have hbl : b < c.blocks.2.length := by have : c.blocks.2.length = f.nb := hcn; omega
 have hcell : (c.blocks.2.map BlockM.cells).flatten[b * 7 + 2]? = some c.blocks.2[b]!.insts.1 := by
  rw [flat_get (size := 7) (fun l hl => by obtain ⟨z, _, rfl⟩ := List.mem_map.1 hl; rfl) b 2 (by omega), List.getElem?_map, List.getElem?_eq_getElem hbl, getElem!_pos c.blocks.2 b hbl]; rfl
 have hil : i < c.blocks.2[b]!.insts.2.length := by omega
 obtain ⟨g', cs38, e38', hb38, -⟩ := own_blk h.rows (by omega)
 rw [ho38] at e38'; cases e38'
 obtain ⟨q', cs43, e43', hb43, -⟩ := own_blk hins (by omega)
 rw [hoq] at e43'; cases e43'
 have hc38 : cs38[b * 7 + 2]? = some (.slice (some ⟨q, 0, none⟩) (E b).length cq) := by rw [← hb38.cell, h4 _ (by omega), hcell, eq]
 refine ⟨g38, c38, q, cq, c.blocks.2[b]!.insts.2[i]!, by rw [e38, hcn], ho38, hg, h3, by omega, h2, eq, hq, q1, q2, ?_, h5 _, fun k v hv => ?_, ?_, ?_, hins, blk_neT hb38 hb43 (by decide), ⟨cs38, hb38, hc38⟩, ⟨cs43, hb43⟩⟩
 ·rw [h4 _ (by omega), hcell, eq]
 ·have hk4 : k < 4 := by
   have := (List.getElem?_eq_some_iff.1 hv).1
   simpa [InstM.cells] using this
  rw [q4 _ (by omega), flat_get (size := 4) (fun l hl => by obtain ⟨z, _, rfl⟩ := List.mem_map.1 hl; rfl) i k hk4, List.getElem?_map, List.getElem?_eq_getElem hil]
  rw [getElem!_pos _ i hil] at hv
  exact hv
 ·have h9 := row_of_own (hoz.inst _ (bang_mem hil))
  rw [List.map_map] at h9
  exact h9
 ·exact hB.ins i hi
/-- between two rounds -/
structure GmR (w : World) (n0 L2 L9 : Nat) (f c0 : FuncM) (zs : List (Nat × Nat)) (pre : List (Fin zs.length)) (W : World) : Prop where
 gm : ∃ c, c.vars.1 = c0.vars.1 ∧ c.params.1 = c0.params.1 ∧ c.blocks.1 = c0.blocks.1 ∧ GmI n0 W L9 f c (contE f zs pre)
 r : Blk W L2 26 #[.slice none 0 0, .slice none 0 0, .slice none 0 0]
 b : Below w.heap.size w W
 s : n0 ≤ W.heap.size
theorem GmR.own {w : World} {n0 L2 L9 B : Nat} {f c0 : FuncM} {zs : List (Nat × Nat)} (hB : w.heap.size ≤ B) : OwnFrom B (GmR w n0 L2 L9 f c0 zs) := fun pre A C row hs hg hr => by
 obtain ⟨c, e1, e2, e3, hG⟩ := hs.gm
 have T := tk_other hg (fun r e => (hr r e).2)
 exact ⟨⟨c, e1, e2, e3, hG.tk T⟩, T 26 _ _ hs.r, ownFrom_below (β := Unit) (Nat.le_refl _) hB () A C row hs.b hg hr, Nat.le_trans hs.s hg.size⟩
theorem contE_round {f : FuncM} {zs : List (Nat × Nat)} {pre : List (Fin zs.length)} {x : Fin zs.length} : contE f zs (pre ++ [x]) = fun a => if zs[x.1]!.1 = a then insL (contE f zs pre a) zs[x.1]!.2 else contE f zs pre a := by
 funext a; exact contE_snoc f zs pre x a
/-- what a call of guard.Make gives -/
def MakeRet (f : FuncM) (w' : World) (e : Ending) : Prop :=
 (¬ typedE f = 0 ∧ e = .returned (.tuple #[.agg #[.slice none 0 0, .slice none 0 0, .slice none 0 0], .int .i64 3])) ∨
 (typedE f = 0 ∧ ¬ phT f f.nb + inT f f.nb + (placesL f).length ≤ 1024 ∧ e = .returned (.tuple #[.agg #[.slice none 0 0, .slice none 0 0, .slice none 0 0], .int .i64 4])) ∨
 (typedE f = 0 ∧ phT f f.nb + inT f f.nb + (placesL f).length ≤ 1024 ∧ ∃ c : FuncM, e = .returned (.tuple #[c.val, .int .i64 0]) ∧ FuncAt w' c ∧ ProgS (madeI f) f c)
end Go.Proofs.YtjllbchfojonhaaGreatDoor
