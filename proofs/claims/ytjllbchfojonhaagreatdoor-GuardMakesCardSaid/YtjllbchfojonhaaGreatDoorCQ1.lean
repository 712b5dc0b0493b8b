/- A program is copied: what the loops keep (plain facts of memory). -/
import Derived.Test.YtjllbchfojonhaaGreatDoorCQ0
namespace Go.Proofs.YtjllbchfojonhaaGreatDoor
open Go.RowKit
set_option linter.unusedVariables false
set_option linter.unusedSimpArgs false
/-- a program of a copier's size -/
structure CopyB (f : FuncM) : Prop where
 nv : f.nv ≤ 100000
 np : f.np ≤ 100000
 nb : f.nb ≤ 1000
 phi : ∀ b, b < f.nb → f.blocks.2[b]!.phis.2.length ≤ 100000 ∧ ∀ p ∈ f.blocks.2[b]!.phis.2, p.args.2.length ≤ 100000 ∧ p.froms.2.length ≤ 100000
 ins : ∀ b, b < f.nb → f.blocks.2[b]!.insts.2.length ≤ 100000 ∧ ∀ x ∈ f.blocks.2[b]!.insts.2, x.args.2.length ≤ 100000
def Apart (zs : List BlockM) : Prop := ∀ j k, j < zs.length → k < zs.length → j ≠ k → ∀ q, zs[j]!.insts.1.ownBlock = some q → zs[k]!.insts.1.ownBlock ≠ some q
structure CopyRet (w w' : World) (f c : FuncM) : Prop where
 vars : w'.ownsRow w.heap.size 83 2 c.vars.1 c.nv (c.vars.2.map VarM.cells).flatten
 pars : w'.ownsRow w.heap.size 3 1 c.params.1 c.np (c.params.2.map (Value.int .i64))
 rows : w'.ownsRow w.heap.size 38 7 c.blocks.1 c.nb (c.blocks.2.map BlockM.cells).flatten
 own : ∀ b, b < c.nb → OwnZ w.heap.size w' c.blocks.2[b]!
 apart : Apart c.blocks.2
 same : ProgS (fun b => f.blocks.2[b]!.insts.2) f c
theorem keeps_mine' {a b c : World} {g : Nat} (h : Keeps a b []) (k : Keeps b c [g]) (hg : a.heap.size ≤ g) : Keeps a c [] :=
 (h.trans k).mono fun x hx => by simp at hx; subst hx; exact .inr hg
theorem bang_snoc {α : Type} [Inhabited α] (l : List α) (x : α) {k : Nat} (hk : k < l.length) : (l ++ [x])[k]! = l[k]! := by
 rw [getElem!_pos _ k (by simp; omega), getElem!_pos l k hk, List.getElem_append_left hk]
theorem bang_last {α : Type} [Inhabited α] (l : List α) (x : α) : (l ++ [x])[l.length]! = x := by
 rw [getElem!_pos _ _ (by simp), List.getElem_append_right (Nat.le_refl _)]; simp
/-- the phis so far -/
structure PhiI (base : Nat) (W : World) (v : Value) (y : BlockM) (qs : List PhiM) : Prop where
 row : W.ownsRow base 95 3 v qs.length (qs.map PhiM.cells).flatten
 own : ∀ p ∈ qs, W.ownsRow base 3 1 p.args.1 p.args.2.length (p.args.2.map (Value.int .i64)) ∧ W.ownsRow base 3 1 p.froms.1 p.froms.2.length (p.froms.2.map (Value.int .i64))
 le : qs.length ≤ y.phis.2.length
 same : ∀ k, k < qs.length → PhiS y.phis.2[k]! qs[k]!
theorem PhiI.tk {base : Nat} {W W' : World} {v : Value} {y : BlockM} {qs : List PhiM} (h : PhiI base W v y qs) (k3 : TyK 3 W W') (k95 : TyK 95 W W') : PhiI base W' v y qs :=
 ⟨own_tk h.row k95, fun p hp => ⟨own_tk (h.own p hp).1 k3, own_tk (h.own p hp).2 k3⟩, h.le, h.same⟩
theorem PhiI.keep {base : Nat} {W W' : World} {v : Value} {y : BlockM} {qs : List PhiM} (h : PhiI base W v y qs) (k : Keeps W W' []) : PhiI base W' v y qs := h.tk (tk_keeps k) (tk_keeps k)
theorem PhiI.snoc {base : Nat} {W W' : World} {v v' : Value} {y : BlockM} {qs : List PhiM} (h : PhiI base W v y qs) (k3 : TyK 3 W W') {q : PhiM} (hr : W'.ownsRow base 95 3 v' (qs.length + 1) ((qs.map PhiM.cells).flatten ++ q.cells))
  (hq : W'.ownsRow base 3 1 q.args.1 q.args.2.length (q.args.2.map (Value.int .i64)) ∧ W'.ownsRow base 3 1 q.froms.1 q.froms.2.length (q.froms.2.map (Value.int .i64))) (hl : qs.length < y.phis.2.length) (hs : PhiS y.phis.2[qs.length]! q) : PhiI base W' v' y (qs ++ [q]) := by
 refine ⟨by rw [List.length_append, List.map_append, List.flatten_append]; simpa using hr, fun p hp => ?_, by rw [List.length_append]; exact hl, fun k hk => ?_⟩
 ·rcases List.mem_append.1 hp with hp | hp
  ·exact ⟨own_tk (h.own p hp).1 k3, own_tk (h.own p hp).2 k3⟩
  ·rw [List.mem_singleton.1 hp]; exact hq
 ·rw [List.length_append, List.length_singleton] at hk
  by_cases e : k = qs.length
  ·rw [e, bang_last]; exact hs
  ·rw [bang_snoc qs q (by omega)]; exact h.same k (by omega)
/-- the instructions so far -/
structure InsI (base : Nat) (W : World) (v : Value) (ys : List InstM) (xs : List InstM) : Prop where
 row : W.ownsRow base 43 4 v xs.length (xs.map InstM.cells).flatten
 own : ∀ x ∈ xs, W.ownsRow base 3 1 x.args.1 x.args.2.length (x.args.2.map (Value.int .i64))
 le : xs.length ≤ ys.length
 same : ∀ k, k < xs.length → SameI xs[k]! ys[k]!
theorem InsI.tk {base : Nat} {W W' : World} {v : Value} {ys xs : List InstM} (h : InsI base W v ys xs) (k3 : TyK 3 W W') (k43 : TyK 43 W W') : InsI base W' v ys xs :=
 ⟨own_tk h.row k43, fun p hp => own_tk (h.own p hp) k3, h.le, h.same⟩
theorem InsI.keep {base : Nat} {W W' : World} {v : Value} {ys xs : List InstM} (h : InsI base W v ys xs) (k : Keeps W W' []) : InsI base W' v ys xs := h.tk (tk_keeps k) (tk_keeps k)
theorem InsI.snoc {base : Nat} {W W' : World} {v v' : Value} {ys xs : List InstM} (h : InsI base W v ys xs) (k3 : TyK 3 W W') {x : InstM} (hr : W'.ownsRow base 43 4 v' (xs.length + 1) ((xs.map InstM.cells).flatten ++ x.cells))
  (hq : W'.ownsRow base 3 1 x.args.1 x.args.2.length (x.args.2.map (Value.int .i64))) (hl : xs.length < ys.length) (hs : SameI x ys[xs.length]!) : InsI base W' v' ys (xs ++ [x]) := by
 refine ⟨by rw [List.length_append, List.map_append, List.flatten_append]; simpa using hr, fun p hp => ?_, by rw [List.length_append]; exact hl, fun k hk => ?_⟩
 ·rcases List.mem_append.1 hp with hp | hp
  ·exact own_tk (h.own p hp) k3
  ·rw [List.mem_singleton.1 hp]; exact hq
 ·rw [List.length_append, List.length_singleton] at hk
  by_cases e : k = xs.length
  ·rw [e, bang_last]; exact hs
  ·rw [bang_snoc xs x (by omega)]; exact h.same k (by omega)
/-- the blocks so far -/
structure CopyI (W0 W : World) (L3 : Nat) (vv pv bv : Value) (f : FuncM) (zs : List BlockM) : Prop where
 box : Blk W L3 26 #[vv, pv, bv]
 ov : W.ownsRow W0.heap.size 83 2 vv f.nv (f.vars.2.map VarM.cells).flatten
 op : W.ownsRow W0.heap.size 3 1 pv f.np (f.params.2.map (Value.int .i64))
 rows : W.ownsRow W0.heap.size 38 7 bv zs.length (zs.map BlockM.cells).flatten
 own : ∀ k, k < zs.length → OwnZ W0.heap.size W zs[k]!
 apart : Apart zs
 same : ∀ k, k < zs.length → BlkS f.blocks.2[k]!.insts.2 f.blocks.2[k]! zs[k]!
 low : W0.heap.size ≤ L3
 k : Keeps W0 W []
section
variable {W0 W W' : World} {L3 : Nat} {vv pv bv bv' : Value} {f : FuncM} {zs : List BlockM}
theorem CopyI.keep (h : CopyI W0 W L3 vv pv bv f zs) (k : Keeps W W' []) : CopyI W0 W' L3 vv pv bv f zs :=
 ⟨h.box.keep k (by simp), own_keep h.ov k (by simp), own_keep h.op k (by simp), own_keep h.rows k (by simp), fun j hj => (h.own j hj).keep k, h.apart, h.same, h.low, h.k.and_then k⟩
theorem CopyI.snoc {o : Obj} {W3 : World} (h : CopyI W0 W L3 vv pv bv f zs) {z : BlockM} (hz : OwnZ W0.heap.size W z) (hf : ∀ q, z.insts.1.ownBlock = some q → ∀ k, k < zs.length → zs[k]!.insts.1.ownBlock ≠ some q)
  (hs : BlkS f.blocks.2[zs.length]!.insts.2 f.blocks.2[zs.length]! z) (hg : (W.alloc o).grownBy W3 bv.ownBlock) (hr : W3.ownsRow W0.heap.size 38 7 bv' (zs.length + 1) ((zs.map BlockM.cells).flatten ++ z.cells)) :
  CopyI W0 (W3.setCell ⟨L3, 2, none⟩ bv') L3 vv pv bv' f (zs ++ [z]) := by
 have ka : Keeps W (W.alloc o) [] := (Keeps.refl W []).alloc o
 have hrow := own_keep h.rows ka (by simp)
 have hb3 : Blk W3 L3 26 #[vv, pv, bv] := blk_grown0 (h.box.keep ka (by simp)) hrow (by decide) hg
 have T : ∀ t : TypeId, t ≠ 38 → t ≠ 26 → TyK t W (W3.setCell ⟨L3, 2, none⟩ bv') := fun t h1 h2 => ((tk_keeps ka).trans (tk_grown hrow (fun e => h1 e.symm) hg)).trans (tk_set hb3 (fun e => h2 e.symm))
 refine ⟨hb3.set_ 2 bv', own_tk h.ov (T 83 (by decide) (by decide)), own_tk h.op (T 3 (by decide) (by decide)), ?_, fun j hj => ?_, fun a b ha hb hne q hq => ?_, fun j hj => ?_, h.low, ?_⟩
 ·rw [List.length_append, List.map_append, List.flatten_append]
  have h9 := own_tk hr (tk_set (T := 38) (i := 2) (u := bv') hb3 (by decide))
  simpa using h9
 ·rw [List.length_append, List.length_singleton] at hj
  have T3 := T 3 (by decide) (by decide); have T43 := T 43 (by decide) (by decide); have T95 := T 95 (by decide) (by decide)
  by_cases e : j = zs.length
  ·rw [e, bang_last]; exact hz.tk T3 T43 T95
  ·rw [bang_snoc zs z (by omega)]; exact (h.own j (by omega)).tk T3 T43 T95
 ·rw [List.length_append, List.length_singleton] at ha hb
  by_cases ea : a = zs.length
  ·rw [ea, bang_last] at hq
   rw [bang_snoc zs z (by omega)]
   exact hf q hq b (by omega)
  ·rw [bang_snoc zs z (by omega)] at hq
   by_cases eb : b = zs.length
   ·rw [eb, bang_last]; intro hq2; exact hf q hq2 a (by omega) hq
   ·rw [bang_snoc zs z (by omega)]; exact h.apart a b (by omega) (by omega) hne q hq
 ·rw [List.length_append, List.length_singleton] at hj
  by_cases e : j = zs.length
  ·rw [e, bang_last]; exact hs
  ·rw [bang_snoc zs z (by omega)]; exact h.same j (by omega)
 ·exact (keeps_grown h.k h.rows (Nat.le_refl _) hg).setCell (.inr h.low) _
end
end Go.Proofs.YtjllbchfojonhaaGreatDoor
