/- The document's guard: among, Is, Leads; contracts. ; The document's guard: Is, Leads; contracts. ; The document's guard: through a block; contract. ; The document's blocks that are reached: From; contract. ; The guard's field in memory: checks, what is good where; the checks of a program (plain). ; Whether a check is good at a place (plain): the marks bad and fine, closed. ; Where a block's end leads (graph.Ends); a block's ends, a program's. ; The document's guard: is a check good at a place? the walk. -/
import Derived.Test.YtjllbchfojonhaaGreatDoorB2
import Derived.BigQuiet
import Derived.Deep.CutBlock
import Derived.Deep.Cut
import Derived.Test.YtjllbchfojonhaaGreatDoorLG
import Derived.Test.YtjllbchfojonhaaGreatDoorFlat
import Derived.Test.YtjllbchfojonhaaGreatDoorB3
import Derived.Deep.CutRange
namespace Go.Proofs.YtjllbchfojonhaaGreatDoor
open Go.RowKit
set_option linter.unusedVariables false
set_option linter.unusedSimpArgs false
def isB (x : InstM) (op : Int) (l : List Int) : Bool := (x.op == op) && decide (x.args.2 = l)
def leadsM (y : BlockM) (b : Int) : Bool := (y.kind == 0 && y.to0 == b) || (y.kind == 1 && (y.to0 == b || y.to1 == b))
set_option maxRecDepth 100000 in
set_option maxHeartbeats 200000000 in
theorem leads_any (f : FuncM) (a : Nat) (b : Int) (w : World) (hf : FuncAt w f) (ha : a < f.nb) : Calls Tryz.prog 39 #[f.val, .int .i64 (a : Nat), .int .i64 b] w fun e w' => e = .returned (.bool (leadsM f.blocks.2[a]! b)) ∧ Keeps w w' [] := by
 obtain ⟨a0, c0, a1, c1, a2, c2, e0, e1, e2, hval, h1, HF, HC0, HC1, HC2, HNV, HNP, HNB⟩ := fopen hf
 rw [hval]
 clear hval h1 e0 e1 e2 hf
 obtain ⟨bb, off, e8, hbb, hbc⟩ := HC2.out a (by rw [HNB.out]; exact ha)
 subst e8
 generalize f.blocks.2[a]! = y at *
 have HL := kept (show leadsM y b = ((y.kind == 0 && y.to0 == b) || (y.kind == 1 && (y.to0 == b || y.to1 == b))) from rfl)
 generalize leadsM y b = R at *
 have H3 := kept (hbc 3 _ rfl)
 have H4 := kept (hbc 4 _ rfl)
 have H5 := kept (hbc 5 _ rfl)
 have H6 := kept (hbc 6 _ rfl)
 generalize y.kind = yk at *
 generalize y.var = yv at *
 generalize y.to0 = y0 at *
 generalize y.to1 = y1 at *
 clear hbc HC2
 have haz : (a : Int) < (f.nb : Int) := by omega
 have hk0 : Keeps w (w.alloc (.cells #[.slice a0 f.nv c0, .slice a1 f.np c1, .slice (some ⟨bb, off, none⟩) f.nb c2] 26)) [] := (Keeps.refl _ []).alloc _
 have bb0 := Blk.new w 26 #[.slice a0 f.nv c0, .slice a1 f.np c1, .slice (some ⟨bb, off, none⟩) f.nb c2]
 have Bl := kept bb0
 have HK := kept hk0
 obtain ⟨l0, l1, l2⟩ := Bl.out.c3
 simp at l0 l1 l2
 have n3 := HK.out.cellOf H3.out
 have n4 := HK.out.cellOf H4.out
 have n5 := HK.out.cellOf H5.out
 have n6 := HK.out.cellOf H6.out
 clear hk0 bb0
 by_cases hk0 : yk = 0
 ·subst hk0
  by_cases ht0 : y0 = b
  ·subst ht0
   go_enter Tryz.func39, Tryz.ntmps39
   go_wp2
   go_ret
   exact ⟨ret_bool (by rw [HL.out]; simp [*]), HK.out.alloc _⟩
  ·have ht0b : (y0 == b) = false := by simpa using ht0
   go_enter Tryz.func39, Tryz.ntmps39
   go_wp2
   go_ret
   exact ⟨ret_bool (by rw [HL.out]; simp [*]), HK.out.alloc _⟩
 ·have hk0b : (yk == 0) = false := by simpa using hk0
  by_cases hk1 : yk = 1
  ·subst hk1
   by_cases ht0 : y0 = b
   ·subst ht0
    go_enter Tryz.func39, Tryz.ntmps39
    go_wp2
    go_ret
    exact ⟨ret_bool (by rw [HL.out]; simp [*]), HK.out.alloc _⟩
   ·have ht0b : (y0 == b) = false := by simpa using ht0
    by_cases ht1 : y1 = b
    ·subst ht1
     go_enter Tryz.func39, Tryz.ntmps39
     go_wp2
     go_ret
     exact ⟨ret_bool (by rw [HL.out]; simp [*]), HK.out.alloc _⟩
    ·have ht1b : (y1 == b) = false := by simpa using ht1
     go_enter Tryz.func39, Tryz.ntmps39
     go_wp2
     go_ret
     exact ⟨ret_bool (by rw [HL.out]; simp [*]), HK.out.alloc _⟩
  ·have hk1b : (yk == 1) = false := by simpa using hk1
   go_enter Tryz.func39, Tryz.ntmps39
   go_wp2
   go_ret
   exact ⟨ret_bool (by rw [HL.out]; simp [*]), HK.out.alloc _⟩
theorem fold_take {α β : Type} [Inhabited α] (g : β → α → β) (b : β) (l : List α) (j : Nat) (hj : j < l.length) : (l.take (j + 1)).foldl g b = g ((l.take j).foldl g b) l[j]! := by
 rw [List.take_succ_eq_append_getElem hj, getElem!_pos l j hj, List.foldl_append]; rfl
def phiG (l : List Int) (was : Bool) (p : PhiM) : Bool := if l.contains p.dst = true then false else was
def instG (op : Int) (l : List Int) (was : Bool) (x : InstM) : Bool := if (decide (0 ≤ x.dst) && l.contains x.dst) = true then false else (isB x op l || was)
def throughM (y : BlockM) (op : Int) (l : List Int) (pl : Nat) (was : Bool) : Bool := (y.insts.2.take pl).foldl (instG op l) (y.phis.2.foldl (phiG l) was)
def bitsR (l : List Bool) : Array Value := (l.map Value.bool).toArray
theorem bitsR_at {l : List Bool} {k : Nat} (hk : k < l.length) : (bitsR l)[k]? = some (.bool l[k]!) := by
 unfold bitsR
 rw [List.getElem?_toArray, List.getElem?_map, List.getElem?_eq_getElem hk, getElem!_pos l k hk]; rfl
theorem bitsR_set (l : List Bool) (k : Nat) (b : Bool) : (bitsR l).setIfInBounds k (.bool b) = bitsR (l.set k b) := by
 unfold bitsR
 rw [List.setIfInBounds_toArray, List.map_set]
theorem made_bits (q : Nat) : madeCells (Value.bool false).cells q = bitsR (List.replicate q false) := by
 unfold bitsR
 apply Array.ext
 ·rw [size_madeCells]; simp
 ·intro i h1 h2
  unfold madeCells
  simp [Value.cells, Nat.mod_one]
theorem info4r : (Tryz.prog.info? 4).map (fun i => (i.zero, i.size, i.bytes)) = some (some (.bool false), 1, 1) := by kernel_rfl
theorem make_bools (q : Nat) (hq : q ≤ 1000) (w : World) : (Instr.makeSlice 39 (.int .i64 (q : Int)) (.int .i64 (q : Int))).run Tryz.prog w = .ok (.slice (some ⟨w.heap.size, 0, none⟩) q q) (w.alloc (.cells (bitsR (List.replicate q false)) 4)) := by
 obtain ⟨i, hi, he⟩ := Option.map_eq_some_iff.1 info4r
 simp only [Prod.mk.injEq] at he
 obtain ⟨hz, hsz, hby⟩ := he
 have hr := Go.run_makeSlice (P := Tryz.prog) (w := w) 39 4 i (.bool false) (by kernel_rfl) hi hz .i64 .i64 (q : Int) (q : Int) (by omega) (Int.le_refl _) (by rw [hsz]; omega) (by rw [hby]; omega) (by omega)
 rw [hsz, Int.toNat_natCast, Nat.mul_one, made_bits] at hr
 exact hr
/-! plain -/
def succF (f : FuncM) (a : Nat) : List Nat := (List.range f.nb).filter fun c => leadsM f.blocks.2[a]! (c : Int)
theorem succF_mem {f : FuncM} {a c : Nat} : c ∈ succF f a ↔ c < f.nb ∧ leadsM f.blocks.2[a]! (c : Int) = true := by
 unfold succF; rw [List.mem_filter, List.mem_range]
structure CheckM where
 op : Int
 args : IntsM
instance : Inhabited CheckM := ⟨⟨0, (.slice none 0 0, [])⟩⟩
def CheckM.cells (c : CheckM) : List Value := [.int .i64 c.op, c.args.1]
def InstM.chk (x : InstM) : CheckM := ⟨x.op, x.args⟩
def sameB (c d : CheckM) : Bool := (c.op == d.op) && decide (c.args.2 = d.args.2)
theorem sameB_iff {c d : CheckM} : sameB c d = true ↔ c.op = d.op ∧ c.args.2 = d.args.2 := by unfold sameB; simp
theorem isB_iff {x : InstM} {op : Int} {l : List Int} : isB x op l = true ↔ x.op = op ∧ x.args.2 = l := by unfold isB; simp
def bitV (l : List Bool) : List Value := l.map Value.bool
def cellsC (cs : List CheckM) : List Value := (cs.map CheckM.cells).flatten
theorem cellsC_len : ∀ cs : List CheckM, ∀ l ∈ cs.map CheckM.cells, l.length = 2 := fun cs l hl => by
 obtain ⟨c, _, rfl⟩ := List.mem_map.1 hl; rfl
structure FieldAt (w : World) (L : Nat) (f : FuncM) (cs : List CheckM) (th : List Bool) (I : List (List Bool)) (lv tv iv : Value) (vs : List Value) : Prop where
 box : Blk w L 89 #[f.vars.1, f.params.1, f.blocks.1, lv, tv, iv]
 fn : FuncAt w f
 l : w.ownsRow 0 49 2 lv cs.length (cellsC cs)
 la : ∀ c ∈ cs, IntsAt w c.args
 t : w.ownsRow 0 4 1 tv th.length (bitV th)
 i : w.ownsRow 0 39 1 iv I.length vs
 ir : ∀ b, b < I.length → w.ownsRow 0 4 1 vs[b]! cs.length (bitV I[b]!)
section
variable {w w' : World} {L : Nat} {f : FuncM} {cs : List CheckM} {th : List Bool} {I : List (List Bool)} {lv tv iv : Value} {vs : List Value}
theorem FieldAt.keep (h : FieldAt w L f cs th I lv tv iv vs) (k : Keeps w w' []) : FieldAt w' L f cs th I lv tv iv vs :=
 ⟨h.box.keep k (by simp), h.fn.keep k, own_keep h.l k (by simp), fun c hc => Row.keep (h.la c hc) k, own_keep h.t k (by simp), own_keep h.i k (by simp), fun b hb => own_keep (h.ir b hb) k (by simp)⟩
theorem FieldAt.row (h : FieldAt w L f cs th I lv tv iv vs) : Row w 2 lv (cs.map CheckM.cells) := row_flat (cellsC_len cs) (by omega) h.l
/-- one of the rows of `in' is put anew -/
theorem FieldAt.put {G b : Nat} {s : Value} {S : List Bool} (h : FieldAt w L f cs th I lv tv iv vs) (hG : iv.ownBlock = some G) (hb : b < I.length) (hs : w.ownsRow 0 4 1 s cs.length (bitV S))
  (hf : FuncAt (w.setCell ⟨G, b, none⟩ s) f) (hla : ∀ c ∈ cs, IntsAt (w.setCell ⟨G, b, none⟩ s) c.args) : FieldAt (w.setCell ⟨G, b, none⟩ s) L f cs th (I.set b S) lv tv iv (vs.set b s) := by
 have k : Keeps w (w.setCell ⟨G, b, none⟩ s) [G] := (Keeps.refl w _).setCell (.inl (by simp)) _
 have ap : ∀ {e : TypeId} {size n base : Nat} {v : Value} {xs : List Value}, w.ownsRow base e size v n xs → e ≠ 39 → ∀ k, v.ownBlock = some k → k ∉ [G] := fun hr he k hk hm => by
  simp at hm; subst hm
  exact own_apart hr h.i he hk hG
 have hlen : vs.length = I.length := by have := h.i.1; omega
 refine ⟨h.box.keep k (by simp; rintro rfl; exact own_ne h.i h.box (by decide) hG), hf, own_keep h.l k (ap h.l (by decide)), hla, own_keep h.t k (ap h.t (by decide)), ?_, fun c hc => ?_⟩
 ·rw [List.length_set]; exact own_setC h.i hG b s
 ·rw [List.length_set] at hc
  rw [rb_set hb]
  have hv : (vs.set b s)[c]! = if c = b then s else vs[c]! := by
   rw [getElem!_pos _ c (by simpa [hlen] using hc), List.getElem_set]
   by_cases e : b = c
   ·rw [if_pos e, if_pos e.symm]
   ·rw [if_neg e, if_neg (Ne.symm e), getElem!_pos vs c (by omega)]
  rw [hv]
  split
  ·exact own_keep hs k (ap hs (by decide))
  ·exact own_keep (h.ir c hc) k (ap (h.ir c hc) (by decide))
end
/-! the checks of a program, each once -/
def addC (out : List CheckM) (x : InstM) : List CheckM := if (chkB x.op && !(out.any (sameB x.chk))) = true then out ++ [x.chk] else out
def collectI (l : List InstM) : List CheckM := l.foldl addC []
def instsF (f : FuncM) : List InstM := f.blocks.2.flatMap fun b => b.insts.2
def collectF (f : FuncM) : List CheckM := collectI (instsF f)
theorem collect_snoc (l : List InstM) (x : InstM) : collectI (l ++ [x]) = addC (collectI l) x := by unfold collectI; rw [List.foldl_append]; rfl
theorem sameB_symm (c d : CheckM) : sameB c d = sameB d c := by
 rw [Bool.eq_iff_iff, sameB_iff, sameB_iff]; exact ⟨fun h => ⟨h.1.symm, h.2.symm⟩, fun h => ⟨h.1.symm, h.2.symm⟩⟩
theorem snoc_ind {α : Type} {P : List α → Prop} (h0 : P []) (h1 : ∀ l x, P l → P (l ++ [x])) : ∀ l, P l := fun l => by
 rw [← List.reverse_reverse l]
 induction l.reverse with
 | nil => exact h0
 | cons x l ih => rw [List.reverse_cons]; exact h1 _ _ ih
theorem collect_mem : ∀ l : List InstM, ∀ x ∈ l, chkB x.op = true → (collectI l).any (sameB x.chk) = true :=
 snoc_ind (fun x hx => by cases hx) fun l y ih x hx hc => by
  rw [collect_snoc]
  have up : ∀ c, (collectI l).any (sameB c) = true → (addC (collectI l) y).any (sameB c) = true := fun c h => by
   unfold addC; split
   ·rw [List.any_append, h, Bool.true_or]
   ·exact h
  rcases List.mem_append.1 hx with h | h
  ·exact up _ (ih x h hc)
  ·rw [List.mem_singleton.1 h] at hc ⊢
   cases ha : (collectI l).any (sameB y.chk) with
   | true => exact up _ ha
   | false =>
    unfold addC
    rw [hc, ha, Bool.true_and, Bool.not_false, if_pos rfl, List.any_append]
    simp [sameB]
theorem collect_of : ∀ l : List InstM, ∀ c ∈ collectI l, chkB c.op = true ∧ ∃ x ∈ l, c = x.chk :=
 snoc_ind (fun c hc => by cases hc) fun l y ih c hc => by
  rw [collect_snoc] at hc
  unfold addC at hc
  split at hc
  ·rename_i h
   rcases List.mem_append.1 hc with h1 | h1
   ·obtain ⟨h2, x, h3, h4⟩ := ih c h1
    exact ⟨h2, x, List.mem_append_left _ h3, h4⟩
   ·rw [List.mem_singleton.1 h1]
    rw [Bool.and_eq_true] at h
    exact ⟨h.1, y, by simp, rfl⟩
  ·obtain ⟨h2, x, h3, h4⟩ := ih c hc
   exact ⟨h2, x, List.mem_append_left _ h3, h4⟩
theorem collect_once : ∀ l : List InstM, (collectI l).Pairwise fun c d => sameB c d = false :=
 snoc_ind (by unfold collectI; simp) fun l y ih => by
  rw [collect_snoc]
  unfold addC
  split
  ·rename_i h
   rw [List.pairwise_append]
   refine ⟨ih, by simp, fun c hc d hd => ?_⟩
   rw [List.mem_singleton.1 hd]
   rw [Bool.and_eq_true, Bool.not_eq_true'] at h
   rw [sameB_symm]
   exact Bool.eq_false_iff.2 fun e => by
    have := List.any_eq_true.2 ⟨c, hc, e⟩
    rw [h.2] at this; cases this
  ·exact ih
theorem collect_uniq {l : List InstM} {i j : Nat} (hi : i < (collectI l).length) (hj : j < (collectI l).length) {c : CheckM} (h1 : sameB c (collectI l)[i]! = true) (h2 : sameB c (collectI l)[j]! = true) : i = j := by
 have hp := List.pairwise_iff_getElem.1 (collect_once l)
 have key : ∀ i j (hi : i < (collectI l).length) (hj : j < (collectI l).length), i < j → sameB c (collectI l)[i]! = true → sameB c (collectI l)[j]! = true → False := fun i j hi hj hij h1 h2 => by
  have := hp i j hi hj hij
  rw [getElem!_pos _ i hi] at h1
  rw [getElem!_pos _ j hj] at h2
  rw [sameB_iff] at h1 h2
  rw [Bool.eq_false_iff] at this
  exact this (sameB_iff.2 ⟨h1.1.symm.trans h2.1, h1.2.symm.trans h2.2⟩)
 rcases Nat.lt_trichotomy i j with h | h | h
 ·exact (key i j hi hj h h1 h2).elim
 ·exact h
 ·exact (key j i hj hi h h2 h1).elim
/-! through is monotone -/
theorem phiG_mono (l : List Int) (p : PhiM) : Mono fun b => phiG l b p := fun h => by
 simp only [phiG] at h ⊢; split at h
 ·cases h
 ·cases h
theorem instG_mono (op : Int) (l : List Int) (x : InstM) : Mono fun b => instG op l b x := fun h => by
 simp only [instG] at h ⊢; split
 ·rename_i h1; rw [if_pos h1] at h; cases h
 ·rename_i h1; rw [if_neg h1] at h; simp at h ⊢
theorem fold_mono {α : Type} (g : Bool → α → Bool) (hg : ∀ x, Mono fun b => g b x) : ∀ l : List α, Mono fun b => l.foldl g b
 | [] => fun h => rfl
 | x :: l => fun h => by
  simp only [List.foldl_cons] at h ⊢
  exact mono_le (fold_mono g hg l) (fun h2 => hg x h2) h
theorem through_mono (y : BlockM) (op : Int) (l : List Int) (pl : Nat) : Mono (throughM y op l pl) := fun h => by
 unfold throughM at h ⊢
 exact mono_le (fold_mono (instG op l) (instG_mono op l) _) (fun h2 => fold_mono (phiG l) (phiG_mono l) _ h2) h
end Go.Proofs.YtjllbchfojonhaaGreatDoor
namespace Go.Proofs.YtjllbchfojonhaaGreatDoor
set_option linter.unusedVariables false
section
variable {succ : Nat → List Nat} {t : Nat → Bool → Bool} {nb : Nat} {bd0 fn0 bd fn : List Bool} {g : Bool} {a k y : Nat}
end
end Go.Proofs.YtjllbchfojonhaaGreatDoor
namespace Go.Proofs.YtjllbchfojonhaaGreatDoor
open Go.RowKit
set_option linter.unusedVariables false
set_option linter.unusedSimpArgs false
def endsM (b : BlockM) : List Int := if b.kind = 0 then [b.to0] else if b.kind = 1 then (if b.to0 = b.to1 then [b.to0] else [b.to0, b.to1]) else []
theorem row_single {w : World} {g : Nat} {t : TypeId} {size : Nat} {cs : List Value} (h : Blk w g t cs.toArray) : Row w size (.slice (some ⟨g, 0, none⟩) 1 1) [cs] := by
 refine ⟨_, 1, rfl, Nat.le_refl _, by simp [maxLen], .inr ⟨g, 0, rfl, h.lt, fun j e he i x hx => ?_⟩⟩
 have hj : j = 0 ∧ cs = e := by
  rcases j with _ | j
  ·exact ⟨rfl, by simpa using he⟩
  ·simp at he
 obtain ⟨rfl, rfl⟩ := hj
 simp only [Nat.zero_mul, Nat.zero_add]
 rw [h.cell i]
 simpa using hx
theorem row_none {w : World} {size : Nat} : Row w size (.slice none 0 0) [] := ⟨none, 0, rfl, Nat.le_refl _, by simp [maxLen], .inl rfl⟩
theorem row_ints1 {w : World} {g : Nat} {t : TypeId} {a : Int} (h : Blk w g t #[.int .i64 a]) : IntsAt w (.slice (some ⟨g, 0, none⟩) 1 1, [a]) := row_single (cs := [.int .i64 a]) h
theorem row_ints2 {w : World} {g : Nat} {t : TypeId} {a b : Int} (h : Blk w g t #[.int .i64 a, .int .i64 b]) : IntsAt w (.slice (some ⟨g, 0, none⟩) 2 2, [a, b]) := by
 refine ⟨_, 2, rfl, Nat.le_refl _, by simp [maxLen], .inr ⟨g, 0, rfl, h.lt, fun j e he i x hx => ?_⟩⟩
 simp only [Nat.mul_one, Nat.zero_add]
 have hi : i = 0 := by
  rcases i with _ | i
  ·rfl
  ·have : e.length = 1 := by
    simp only [List.map_cons, List.map_nil] at he
    rcases j with _ | _ | j <;> simp at he <;> (first | (rw [← he]; rfl) | cases he)
   have := (List.getElem?_eq_some_iff.1 hx).1
   omega
 subst hi
 rw [Nat.add_zero, h.cell j]
 rcases j with _ | _ | j <;> simp [intCells] at he <;> (subst he; simpa using hx)
theorem blk_at (W : World) (t : TypeId) (cs : Array Value) {g : Nat} (hg : W.heap.size = g) : Blk (W.alloc (.cells cs t)) g t cs := by
 subst hg; exact Blk.new W t cs
def EndsRet (w : World) (l : List Int) (e : Ending) (w' : World) : Prop := (∃ q : IntsM, e = .returned q.1 ∧ q.2 = l ∧ IntsAt w' q ∧ ∀ k, q.1.ownBlock = some k → w.heap.size ≤ k) ∧ Keeps w w' []
theorem ends_any (k v a b : Int) (bm : BlockM) (h1 : bm.kind = k) (h2 : bm.to0 = a) (h3 : bm.to1 = b) (w : World) : Calls Tryz.prog 126 #[.agg #[.int .i64 k, .int .i64 v, .int .i64 a, .int .i64 b]] w fun e w' => EndsRet w (endsM bm) e w' := by
 unfold endsM
 rw [h1, h2, h3]
 clear h1 h2 h3
 obtain ⟨HK, Bm⟩ := fbox w 36 #[.int .i64 k, .int .i64 v, .int .i64 a, .int .i64 b]
 obtain ⟨m0, m1, m2, m3⟩ := Bm.out.c4
 simp at m0 m1 m2 m3
 go_enter Tryz.func126, Tryz.ntmps126
 by_cases hk0 : k = 0
 ·rw [if_pos hk0]
  subst hk0
  go_wp2
  go_ret
  exact ⟨⟨(.slice (some ⟨w.heap.size + 1, 0, none⟩) 1 1, [a]), rfl, rfl, row_ints1 (blk_at _ 3 _ (size_alloc1 _ _)), fun k hk => by simp [Value.ownBlock] at hk; omega⟩, HK.out.alloc _⟩
 rw [if_neg hk0]
 by_cases hk1 : k = 1
 ·rw [if_pos hk1]
  subst hk1
  by_cases hab : a = b
  ·rw [if_pos hab]
   subst hab
   go_wp2
   go_ret
   exact ⟨⟨(.slice (some ⟨w.heap.size + 1, 0, none⟩) 1 1, [a]), rfl, rfl, row_ints1 (blk_at _ 3 _ (size_alloc1 _ _)), fun k hk => by simp [Value.ownBlock] at hk; omega⟩, HK.out.alloc _⟩
  ·rw [if_neg hab]
   go_wp2
   go_ret
   exact ⟨⟨(.slice (some ⟨w.heap.size + 1, 0, none⟩) 2 2, [a, b]), rfl, rfl, row_ints2 (blk_at _ 3 _ (size_alloc1 _ _)), fun k hk => by simp [Value.ownBlock] at hk; omega⟩, HK.out.alloc _⟩
 rw [if_neg hk1]
 go_wp2
 go_ret
 exact ⟨⟨(.slice none 0 0, []), rfl, rfl, row_none, fun k hk => by cases hk⟩, HK.out⟩
theorem ends_len (b : BlockM) : (endsM b).length ≤ 2 := by
 unfold endsM
 split
 ·simp
 ·split
  ·split <;> simp
  ·simp
def endsN (f : FuncM) (c : Nat) : List Nat := (endsM f.blocks.2[c]!).map Int.toNat
theorem endsN_len (f : FuncM) (c : Nat) : (endsN f c).length ≤ 2 := by unfold endsN; rw [List.length_map]; exact ends_len _
/-- a program whose ends lead to blocks of its own -/
structure EndsOK (f : FuncM) : Prop where
  pos : 0 < f.nb
  nb : f.nb ≤ 1000
  term : ∀ c, c < f.nb → termB f f.blocks.2[c]!.kind f.blocks.2[c]!.var f.blocks.2[c]!.to0 f.blocks.2[c]!.to1 = true
section
variable {f : FuncM}
theorem inB_lt {v : Int} {n : Nat} (h : inB v n = true) : 0 ≤ v ∧ v < (n : Int) := by unfold inB at h; rw [Bool.and_eq_true, decide_eq_true_eq, decide_eq_true_eq] at h; exact h
theorem ends_in (h : EndsOK f) {c : Nat} (hc : c < f.nb) {z : Int} (hz : z ∈ endsM f.blocks.2[c]!) : 0 ≤ z ∧ z < (f.nb : Int) := by
  have ht := h.term c hc
  generalize f.blocks.2[c]! = y at *
  unfold endsM at hz
  unfold termB at ht
  by_cases h0 : y.kind = 0
  · rw [if_pos h0] at hz ht
    simp only [Bool.and_eq_true] at ht
    rw [List.mem_singleton.1 hz]; exact inB_lt ht.1.1
  · rw [if_neg h0] at hz ht
    by_cases h1 : y.kind = 1
    · rw [if_pos h1] at hz ht
      simp only [Bool.and_eq_true] at ht
      split at hz
      · rw [List.mem_singleton.1 hz]; exact inB_lt ht.1.2
      · rcases List.mem_cons.1 hz with e | hz
        · rw [e]; exact inB_lt ht.1.2
        · rw [List.mem_singleton.1 hz]; exact inB_lt ht.2
    · rw [if_neg h1] at hz; cases hz
theorem ends_at (h : EndsOK f) {c k : Nat} (hc : c < f.nb) (hk : k < (endsM f.blocks.2[c]!).length) : ((endsN f c)[k]! : Int) = (endsM f.blocks.2[c]!)[k]! ∧ (endsN f c)[k]! < f.nb := by
  have hz := ends_in h hc (bang_mem hk)
  have e : (endsN f c)[k]! = ((endsM f.blocks.2[c]!)[k]!).toNat := by
    unfold endsN
    rw [getElem!_pos _ k (by simpa using hk), List.getElem_map, getElem!_pos _ k hk]
  rw [e]; omega
theorem ends_lt (h : EndsOK f) {c d : Nat} (hc : c < f.nb) (hd : d ∈ endsN f c) : d < f.nb := by
  obtain ⟨z, hz, rfl⟩ := List.mem_map.1 hd
  have := ends_in h hc hz; omega
theorem ends_succ (h : EndsOK f) {c d : Nat} (hc : c < f.nb) : d ∈ endsN f c ↔ d ∈ succF f c := by
  rw [succF_mem]
  constructor
  · intro hd
    refine ⟨ends_lt h hc hd, ?_⟩
    obtain ⟨z, hz, rfl⟩ := List.mem_map.1 hd
    have h2 := ends_in h hc hz
    rw [Int.toNat_of_nonneg h2.1]
    generalize f.blocks.2[c]! = y at *
    unfold endsM at hz
    unfold leadsM
    by_cases h0 : y.kind = 0
    · rw [if_pos h0] at hz; rw [List.mem_singleton.1 hz, h0]; simp
    · rw [if_neg h0] at hz
      by_cases h1 : y.kind = 1
      · rw [if_pos h1] at hz
        rw [h1]
        split at hz
        · rw [List.mem_singleton.1 hz]; simp
        · rcases List.mem_cons.1 hz with e | hz
          · rw [e]; simp
          · rw [List.mem_singleton.1 hz]; simp
      · rw [if_neg h1] at hz; cases hz
  · rintro ⟨hd, hl⟩
    refine List.mem_map.2 ⟨(d : Int), ?_, by simp⟩
    generalize f.blocks.2[c]! = y at *
    unfold leadsM at hl
    unfold endsM
    simp only [Bool.or_eq_true, Bool.and_eq_true, beq_iff_eq] at hl
    rcases hl with ⟨h0, h1⟩ | ⟨h0, h1⟩
    · rw [if_pos h0, h1]; simp
    · rw [if_neg (by omega), if_pos h0]
      split
      · rename_i e; rcases h1 with h1 | h1
        · rw [h1]; simp
        · rw [e, h1]; simp
      · rcases h1 with h1 | h1
        · rw [h1]; simp
        · rw [h1]; simp
theorem rway_nb (h : EndsOK f) {b : Nat} (hr : RWay (succF f) b) : b < f.nb := by
  cases hr with
  | start => exact h.pos
  | step _ hs => exact (succF_mem.1 hs).1
theorem rway_ends (h : EndsOK f) {b : Nat} : RWay (endsN f) b ↔ RWay (succF f) b := by
  constructor
  · intro hr
    have : b < f.nb ∧ RWay (succF f) b := by
      induction hr with
      | start => exact ⟨h.pos, .start⟩
      | @step a c _ hs ih => exact ⟨ends_lt h ih.1 hs, .step ih.2 ((ends_succ h ih.1).1 hs)⟩
    exact this.2
  · intro hr
    induction hr with
    | start => exact .start
    | @step a c ha hs ih => exact .step ih ((ends_succ h (rway_nb h ha)).2 hs)
end
def tF (f : FuncM) (op : Int) (l : List Int) (a : Nat) (g : Bool) : Bool := throughM f.blocks.2[a]! op l f.blocks.2[a]!.insts.2.length g
def GoodP (f : FuncM) (op : Int) (l : List Int) (b pl : Nat) : Prop := ∀ g, GWay (succF f) (tF f op l) b g → throughM f.blocks.2[b]! op l pl g = true
end Go.Proofs.YtjllbchfojonhaaGreatDoor
