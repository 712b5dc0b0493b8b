/- guard.Make: what the loop over the places keeps (plain facts of memory). -/
import Derived.Test.YtjllbchfojonhaaGreatDoorBWI
import Derived.Test.YtjllbchfojonhaaGreatDoorIN
namespace Go.Proofs.YtjllbchfojonhaaGreatDoor
open Go.RowKit
set_option linter.unusedVariables false
set_option linter.unusedSimpArgs false
def insL (l : List InstM) (i : Nat) : List InstM := l.take i ++ needI l[i]! :: l.drop i
theorem insL_len {l : List InstM} {i : Nat} (h : i ≤ l.length) : (insL l i).length = l.length + 1 := by unfold insL; simp; omega
def contE (f : FuncM) (zs : List (Nat × Nat)) (pre : List (Fin zs.length)) (b : Nat) : List InstM := pre.foldl (fun l x => if zs[x.1]!.1 = b then insL l zs[x.1]!.2 else l) f.blocks.2[b]!.insts.2
theorem contE_nil (f : FuncM) (zs : List (Nat × Nat)) (b : Nat) : contE f zs [] b = f.blocks.2[b]!.insts.2 := rfl
theorem contE_snoc (f : FuncM) (zs : List (Nat × Nat)) (pre : List (Fin zs.length)) (x : Fin zs.length) (b : Nat) : contE f zs (pre ++ [x]) b = if zs[x.1]!.1 = b then insL (contE f zs pre b) zs[x.1]!.2 else contE f zs pre b := by
 simp [contE, List.foldl_append]
def okI (x : InstM) : Prop := (0 ≤ x.op ∧ x.op < 27) ∧ x.args.2.length = (ktakes x.op.toNat).size
theorem ok_need {x : InstM} (h : okI x) : okI (needI x) := by
 obtain ⟨⟨h1, h2⟩, h3⟩ := h
 unfold needI okI
 simp only
 unfold needA
 cases hr : inL rawL x.op with
 | false =>
  rw [needC_no (k := x.op.toNat) (by rw [show ((x.op.toNat : Nat) : Int) = x.op by omega]; exact hr)]
  exact ⟨by decide, by simp; rfl⟩
 | true =>
  generalize hk : x.op.toNat = k at *
  rcases raw_cases (k := k) (by omega) (by rw [show ((k : Nat) : Int) = x.op by omega]; exact hr) with rfl | rfl | rfl | rfl | rfl | rfl
  all_goals exact ⟨by decide, by rw [List.length_take, List.length_drop, h3]; decide⟩
structure PlOK (f : FuncM) (zs : List (Nat × Nat)) : Prop where
 ok : ∀ b, b < f.nb → ∀ x ∈ f.blocks.2[b]!.insts.2, okI x
 len : zs.length ≤ 100000
 at' : ∀ k, k < zs.length → zs[k]!.1 < f.nb ∧ zs[k]!.2 < f.blocks.2[zs[k]!.1]!.insts.2.length
theorem contE_ok {f : FuncM} {zs : List (Nat × Nat)} (h : PlOK f zs) : ∀ (pre : List (Fin zs.length)) (b : Nat), b < f.nb → f.blocks.2[b]!.insts.2.length ≤ (contE f zs pre b).length ∧ (contE f zs pre b).length ≤ f.blocks.2[b]!.insts.2.length + pre.length ∧ ∀ x ∈ contE f zs pre b, okI x := by
 intro pre
 induction hn : pre.length generalizing pre with
 | zero =>
  obtain rfl : pre = [] := List.eq_nil_of_length_eq_zero hn
  intro b hb
  rw [contE_nil]; exact ⟨Nat.le_refl _, by omega, h.ok b hb⟩
 | succ n ih =>
  obtain ⟨p, x, rfl⟩ : ∃ p x, pre = p ++ [x] := ⟨pre.dropLast, pre.getLast (by intro e; rw [e] at hn; cases hn), (List.dropLast_concat_getLast _).symm⟩
  rw [List.length_append, List.length_singleton] at hn
  intro b hb
  obtain ⟨h1, h2, h3⟩ := ih p (by omega) b hb
  rw [contE_snoc]
  split
  ·rename_i e
   have hi := (h.at' x.1 x.2).2
   rw [e] at hi
   have hil : zs[x.1]!.2 < (contE f zs p b).length := by omega
   rw [insL_len (by omega)]
   refine ⟨by omega, by omega, fun y hy => ?_⟩
   unfold insL at hy
   rcases List.mem_append.1 hy with hy | hy
   ·exact h3 y (List.mem_of_mem_take hy)
   ·rcases List.mem_cons.1 hy with rfl | hy
    ·exact ok_need (h3 _ (bang_mem hil))
    ·exact h3 y (List.mem_of_mem_drop hy)
  ·exact ⟨h1, by omega, h3⟩
/-- the copy, with the instructions E -/
structure GmI (n0 : Nat) (W : World) (L9 : Nat) (f c : FuncM) (E : Nat → List InstM) : Prop where
 box : Blk W L9 26 #[c.vars.1, c.params.1, c.blocks.1]
 vars : W.ownsRow n0 83 2 c.vars.1 c.nv (c.vars.2.map VarM.cells).flatten
 pars : W.ownsRow n0 3 1 c.params.1 c.np (c.params.2.map (Value.int .i64))
 rows : W.ownsRow n0 38 7 c.blocks.1 c.nb (c.blocks.2.map BlockM.cells).flatten
 own : ∀ b, b < c.nb → OwnZ n0 W c.blocks.2[b]!
 apart : Apart c.blocks.2
 same : ProgS E f c
theorem GmI.tk {n0 : Nat} {W W' : World} {L9 : Nat} {f c : FuncM} {E : Nat → List InstM} (h : GmI n0 W L9 f c E) (k : ∀ T, TyK T W W') : GmI n0 W' L9 f c E :=
 ⟨k _ _ _ h.box, own_tk h.vars (k _), own_tk h.pars (k _), own_tk h.rows (k _), fun b hb => (h.own b hb).tk (k _) (k _) (k _), h.apart, h.same⟩
theorem GmI.keep {n0 : Nat} {W W' : World} {L9 : Nat} {f c : FuncM} {E : Nat → List InstM} (h : GmI n0 W L9 f c E) (k : Keeps W W' []) : GmI n0 W' L9 f c E := h.tk (fun T => tk_keeps k)
theorem tk_other {W W' : World} {row : Option Nat} (hg : W.grownBy W' row) (hr : ∀ r, row = some r → ∃ o : Obj, W.heap[r]? = some o ∧ o.isCells = false) (T : TypeId) : TyK T W W' := fun b cs hb => by
 refine (hg.block b hb.lt (fun e => ?_)).trans hb
 obtain ⟨o, ho, hc⟩ := hr b e.symm
 rw [show W.heap[b]? = _ from hb] at ho; cases ho; cases hc
theorem tk_keeps1 {T t : TypeId} {W W' : World} {q : Nat} {cs : Array Value} (k : Keeps W W' [q]) (hq : Blk W q t cs) (hne : t ≠ T) : TyK T W W' := fun b ds h => h.keep k (by simp; exact fun e => blk_neT h hq (fun z => hne z.symm) e)
theorem own_blk {W : World} {base size n : Nat} {e : TypeId} {v : Value} {xs : List Value} (h : W.ownsRow base e size v n xs) (hn : 0 < n) : ∃ q cs, v.ownBlock = some q ∧ Blk W q e cs ∧ base ≤ q := by
 obtain ⟨_, ⟨_, h0⟩ | ⟨g, cap, cur, rfl, hb, hg, _⟩⟩ := h
 ·omega
 ·exact ⟨g, cur, rfl, hg, hb⟩
theorem flat7_set : ∀ (es : List (List Value)) (b : Nat) (u : Value), (∀ l ∈ es, l.length = 7) → b < es.length → es.flatten.set (b * 7 + 2) u = (es.set b ((es[b]!).set 2 u)).flatten
 | [], b, u, _, hb => absurd hb (Nat.not_lt_zero _)
 | l :: es, 0, u, h, _ => by
  have hl := h l (by simp)
  simp only [List.flatten_cons, List.set_cons_zero, Nat.zero_mul, Nat.zero_add, List.getElem!_cons_zero]
  rw [List.set_append, if_pos (by omega)]
 | l :: es, b + 1, u, h, hb => by
  have hl := h l (by simp)
  simp only [List.flatten_cons, List.set_cons_succ, List.getElem!_cons_succ]
  rw [List.set_append, if_neg (by omega), show (b + 1) * 7 + 2 - l.length = b * 7 + 2 by omega, flat7_set es b u (fun m hm => h m (List.mem_cons_of_mem _ hm)) (by simpa using hb)]
theorem bang_set {α : Type} [Inhabited α] (l : List α) (b : Nat) (x : α) (hb : b < l.length) : (l.set b x)[b]! = x := by
 rw [getElem!_pos _ b (by simpa using hb), List.getElem_set_self]
theorem bang_set_ne {α : Type} [Inhabited α] (l : List α) (b : Nat) (x : α) {j : Nat} (hj : j < l.length) (h : j ≠ b) : (l.set b x)[j]! = l[j]! := by
 rw [getElem!_pos _ j (by simpa using hj), getElem!_pos l j hj, List.getElem_set_ne (fun e => h e.symm)]
theorem bang_ins {α : Type} [Inhabited α] (l : List α) (i k : Nat) (x : α) (hi : i ≤ l.length) (hk : k < l.length + 1) : (l.take i ++ x :: l.drop i)[k]! = if k < i then l[k]! else if k = i then x else l[k - 1]! := by
 rw [getElem!_pos _ k (by simp; omega)]
 rw [List.getElem_append]
 simp only [List.length_take, Nat.min_eq_left hi]
 split
 ·rename_i h; rw [List.getElem_take, getElem!_pos l k (by omega)]
 ·rename_i h
  split
  ·rename_i e; subst e; simp
  ·rename_i e
   rw [List.getElem_cons, dif_neg (by omega), List.getElem_drop, getElem!_pos l (k - 1) (by omega)]
   congr 1; omega
theorem GmI.ins {n0 : Nat} {W1 W2 : World} {L9 : Nat} {f c : FuncM} {E : Nat → List InstM} (h : GmI n0 W1 L9 f c E) {b i g38 : Nat} {v' : Value} {xq : InstM} (hb : b < f.nb) (hi : i < (E b).length) (hg : c.blocks.1.ownBlock = some g38)
  (hv : W2.ownsRow n0 43 4 v' ((E b).length + 1) (((c.blocks.2[b]!.insts.2.map InstM.cells).take i ++ xq.cells :: (c.blocks.2[b]!.insts.2.map InstM.cells).drop i).flatten))
  (hvb : v'.ownBlock = c.blocks.2[b]!.insts.1.ownBlock ∨ ∃ z, v'.ownBlock = some z ∧ W1.heap.size ≤ z) (hk : ∀ q, c.blocks.2[b]!.insts.1.ownBlock = some q → Keeps W1 W2 [q])
  (hq : W1.ownsRow n0 3 1 xq.args.1 xq.args.2.length (xq.args.2.map (Value.int .i64))) (hs : SameI xq (needI (E b)[i]!)) :
  ∃ c', c'.vars.1 = c.vars.1 ∧ c'.params.1 = c.params.1 ∧ c'.blocks.1 = c.blocks.1 ∧ GmI n0 (W2.setCell ⟨g38, b * 7 + 2, none⟩ v') L9 f c' (fun a => if b = a then insL (E a) i else E a) := by
 have hcn : c.nb = f.nb := h.same.nb
 have hbc : b < c.nb := by omega
 have hbl : b < c.blocks.2.length := hbc
 have hB := h.same.blk b hb
 obtain ⟨z, hz⟩ : ∃ z, c.blocks.2[b]! = z := ⟨_, rfl⟩
 have hoz := h.own b hbc
 rw [hz] at hv hvb hk hB hoz
 have hxl : z.insts.2.length = (E b).length := hB.ilen
 obtain ⟨q, cq, hqv, hqb, hq0⟩ := own_blk hoz.insts (by omega)
 have k1 := hk q hqv
 have T1 : ∀ T : TypeId, T ≠ 43 → TyK T W1 W2 := fun T hT => tk_keeps1 k1 hqb (fun e => hT e.symm)
 have hrow2 := own_tk h.rows (T1 38 (by decide))
 obtain ⟨g', c38, hg', hb38, -⟩ := own_blk hrow2 (by omega)
 rw [hg] at hg'; cases hg'
 have T2 : ∀ T : TypeId, T ≠ 38 → TyK T W2 (W2.setCell ⟨g38, b * 7 + 2, none⟩ v') := fun T hT => tk_set hb38 (fun e => hT e.symm)
 have T12 : ∀ T : TypeId, T ≠ 43 → T ≠ 38 → TyK T W1 (W2.setCell ⟨g38, b * 7 + 2, none⟩ v') := fun T h1 h2 => (T1 T h1).trans (T2 T h2)
 obtain ⟨z', hz'⟩ : ∃ z' : BlockM, (⟨z.name, z.phis, (v', z.insts.2.take i ++ xq :: z.insts.2.drop i), z.kind, z.var, z.to0, z.to1⟩ : BlockM) = z' := ⟨_, rfl⟩
 have hlen' : z'.insts.2.length = (E b).length + 1 := by rw [← hz']; simp; omega
 refine ⟨⟨c.vars, c.params, (c.blocks.1, c.blocks.2.set b z')⟩, rfl, rfl, rfl, ?_, ?_, ?_, ?_, ?_, ?_, ?_⟩
 ·exact T12 26 (by decide) (by decide) _ _ h.box
 ·exact own_tk h.vars (T12 83 (by decide) (by decide))
 ·exact own_tk h.pars (T12 3 (by decide) (by decide))
 ·have h9 := own_setC hrow2 hg (b * 7 + 2) v'
  have hfl := flat7_set (c.blocks.2.map BlockM.cells) b v' (fun l hl => by obtain ⟨y, _, rfl⟩ := List.mem_map.1 hl; rfl) (by simpa using hbl)
  rw [hfl] at h9
  show World.ownsRow _ _ _ _ _ (c.blocks.2.set b z').length ((c.blocks.2.set b z').map BlockM.cells).flatten
  rw [List.length_set, List.map_set]
  have e : (c.blocks.2.map BlockM.cells)[b]!.set 2 v' = z'.cells := by
   rw [getElem!_pos _ b (by simpa using hbl), List.getElem_map, ← getElem!_pos c.blocks.2 b hbl, hz, ← hz']; rfl
  rw [e] at h9
  exact h9
 ·intro j hj
  have hj' : j < c.blocks.2.length := by simpa [FuncM.nb] using hj
  show OwnZ n0 _ (c.blocks.2.set b z')[j]!
  by_cases e : j = b
  ·subst e
   rw [bang_set _ _ _ hbl, ← hz']
   refine ⟨own_tk hoz.phis (T12 95 (by decide) (by decide)), fun p hp => ⟨own_tk (hoz.phi p hp).1 (T12 3 (by decide) (by decide)), own_tk (hoz.phi p hp).2 (T12 3 (by decide) (by decide))⟩, ?_, fun x hx => ?_⟩
   ·have h9 := own_tk hv (T2 43 (by decide))
    have e2 : (z.insts.2.take i ++ xq :: z.insts.2.drop i).length = (E j).length + 1 := by simp; omega
    show World.ownsRow _ _ _ _ _ (z.insts.2.take i ++ xq :: z.insts.2.drop i).length ((z.insts.2.take i ++ xq :: z.insts.2.drop i).map InstM.cells).flatten
    rw [e2, List.map_append, List.map_cons, List.map_take, List.map_drop]; exact h9
   ·have hx' : x ∈ z.insts.2 ∨ x = xq := by
     rcases List.mem_append.1 hx with hx | hx
     ·exact .inl (List.mem_of_mem_take hx)
     ·rcases List.mem_cons.1 hx with rfl | hx
      ·exact .inr rfl
      ·exact .inl (List.mem_of_mem_drop hx)
    rcases hx' with hx | rfl
    ·exact own_tk (hoz.inst x hx) (T12 3 (by decide) (by decide))
    ·exact own_tk hq (T12 3 (by decide) (by decide))
  ·rw [bang_set_ne _ _ _ hj' e]
   have ho := h.own j hj'
   refine ⟨own_tk ho.phis (T12 95 (by decide) (by decide)), fun p hp => ⟨own_tk (ho.phi p hp).1 (T12 3 (by decide) (by decide)), own_tk (ho.phi p hp).2 (T12 3 (by decide) (by decide))⟩, ?_, fun x hx => own_tk (ho.inst x hx) (T12 3 (by decide) (by decide))⟩
   refine own_tk (own_keep ho.insts k1 (fun r hr hm => ?_)) (T2 43 (by decide))
   rw [List.mem_singleton] at hm; subst hm
   exact h.apart b j hbl hj' (fun e2 => e e2.symm) r (by rw [hz]; exact hqv) hr
 ·intro j k hj hk2 hne r hr
  rw [List.length_set] at hj hk2
  by_cases ej : j = b
  ·subst ej
   rw [bang_set _ _ _ hbl, ← hz'] at hr
   rw [bang_set_ne _ _ _ hk2 (fun e => hne e.symm)]
   intro hr2
   rcases hvb with e | ⟨y, e, hy⟩
   ·exact h.apart j k hbl hk2 hne r (by rw [hz]; exact e.symm.trans hr) hr2
   ·have h9 := (own_lt (h.own k hk2).insts hr2).1
    rw [show v'.ownBlock = some r from hr] at e; cases e; omega
  ·rw [bang_set_ne _ _ _ hj ej] at hr
   by_cases ek : k = b
   ·subst ek
    rw [bang_set _ _ _ hbl, ← hz']
    intro hr2
    rcases hvb with e | ⟨y, e, hy⟩
    ·exact h.apart j k hj hk2 hne r hr (by rw [hz]; exact e.symm.trans hr2)
    ·have h9 := (own_lt (h.own j hj).insts hr).1
     rw [show v'.ownBlock = some r from hr2] at e; cases e; omega
   ·rw [bang_set_ne _ _ _ hk2 ek]; exact h.apart j k hj hk2 hne r hr
 ·refine ⟨h.same.vars, h.same.params, by rw [← hcn]; show (c.blocks.2.set b z').length = _; rw [List.length_set]; rfl, fun a ha => ?_⟩
  show BlkS _ _ (c.blocks.2.set b z')[a]!
  by_cases e : a = b
  ·subst e
   rw [bang_set _ _ _ hbl]
   show BlkS (if a = a then insL (E a) i else E a) _ _
   rw [if_pos rfl, ← hz']
   refine ⟨hB.name, hB.plen, hB.phi, ?_, fun k hk => ?_, hB.kind, hB.var, hB.to0, hB.to1⟩
   ·rw [insL_len (by omega)]; simp; omega
   ·rw [insL_len (by omega)] at hk
    unfold insL
    show SameI (z.insts.2.take i ++ xq :: z.insts.2.drop i)[k]! _
    rw [bang_ins _ _ _ _ (by omega) (by omega), bang_ins _ _ _ _ (by omega) (by omega)]
    split
    ·exact hB.ins k (by omega)
    ·split
     ·exact hs
     ·exact hB.ins (k - 1) (by omega)
  ·rw [bang_set_ne _ _ _ (by have : c.blocks.2.length = f.nb := hcn; omega) e]
   have := h.same.blk a ha
   simp only [if_neg (show ¬ b = a from fun e2 => e e2.symm)]
   exact this
theorem GmI.func {n0 : Nat} {W W' : World} {L9 : Nat} {f c : FuncM} {E : Nat → List InstM} (h : GmI n0 W L9 f c E) (k : ∀ T, T ≠ 26 → TyK T W W') {w0 : World} (hf : FuncAt w0 f) : FuncAt W' c := by
 have hcn : c.nb = f.nb := h.same.nb
 refine ⟨row_flat (fun l hl => by obtain ⟨z, _, rfl⟩ := List.mem_map.1 hl; rfl) (by decide) (own_tk (by have := h.vars; rwa [show c.nv = (c.vars.2.map VarM.cells).length by simp [FuncM.nv]] at this) (k 83 (by decide))), fun v hv => hf.names v (by rw [← h.same.vars]; exact hv), ?_, row_flat (fun l hl => by obtain ⟨z, _, rfl⟩ := List.mem_map.1 hl; rfl) (by decide) (own_tk (by have := h.rows; rwa [show c.nb = (c.blocks.2.map BlockM.cells).length by simp [FuncM.nb]] at this) (k 38 (by decide))), fun z hz => ?_⟩
 ·have h9 := row_of_own (own_tk h.pars (k 3 (by decide)))
  rw [List.map_map] at h9
  exact h9
 ·obtain ⟨j, hj, rfl⟩ : ∃ j, j < c.blocks.2.length ∧ c.blocks.2[j]! = z := by
   obtain ⟨j, hj, e⟩ := List.mem_iff_getElem.1 hz
   exact ⟨j, hj, by rw [getElem!_pos c.blocks.2 j hj]; exact e⟩
  have ho := h.own j hj
  have hB := h.same.blk j (by have h8 : c.blocks.2.length = f.nb := hcn; omega)
  have ints : ∀ (p : IntsM), W.ownsRow n0 3 1 p.1 p.2.length (p.2.map (Value.int .i64)) → IntsAt W' p := fun p hp => by
   have h9 := row_of_own (own_tk hp (k 3 (by decide)))
   rw [List.map_map] at h9
   exact h9
  refine ⟨row_flat (fun l hl => by obtain ⟨z, _, rfl⟩ := List.mem_map.1 hl; rfl) (by decide) (own_tk (by have := ho.phis; rwa [← List.length_map (f := PhiM.cells)] at this) (k 95 (by decide))), fun p hp => ⟨ints _ (ho.phi p hp).1, ints _ (ho.phi p hp).2⟩, row_flat (fun l hl => by obtain ⟨z, _, rfl⟩ := List.mem_map.1 hl; rfl) (by decide) (own_tk (by have := ho.insts; rwa [← List.length_map (f := InstM.cells)] at this) (k 43 (by decide))), fun x hx => ints _ (ho.inst x hx), by rw [hB.name]; exact (hf.block _ (bang_mem (l := f.blocks.2) (k := j) (by have h8 : c.blocks.2.length = f.nb := hcn; show j < f.blocks.2.length; have h7 : f.blocks.2.length = f.nb := rfl; omega))).size⟩
theorem below_keeps {W W' : World} (h : Below W.heap.size W W') : Keeps W W' [] := ⟨h.os, h.tape, h.output, h.size, fun i hi _ => h.block i hi⟩
theorem keepsFrom1 {B : Nat} {W W' : World} {q : Nat} {t : TypeId} {cs : Array Value} (k : Keeps W W' [q]) (hq : Blk W q t cs) : KeepsFrom B W W' := ⟨k.size, fun i o _ ho hc => (k.block i (Array.getElem?_eq_some_iff.1 ho).1 (by simp; intro e; subst e; rw [show W.heap[i]? = _ from hq] at ho; cases ho; cases hc)).trans ho⟩
theorem keepsFrom0 {B : Nat} {W W' : World} (k : Keeps W W' []) : KeepsFrom B W W' := ⟨k.size, fun i o _ ho hc => (k.block i (Array.getElem?_eq_some_iff.1 ho).1 (by simp)).trans ho⟩
end Go.Proofs.YtjllbchfojonhaaGreatDoor
