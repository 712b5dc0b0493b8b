/- A program with one instruction put in, where its variable isn't live (plain): it is shaped, typed, a slot program; and what came of both. -/
import Derived.Test.YtjllbchfojonhaaDoorB5
import Derived.Test.YtjllbchfojonhaaDoorB6
import Derived.Test.YtjllbchfojonhaaDoorLiveThree
import Derived.Test.YtjllbchfojonhaaDoorFlat
namespace Go.Proofs.YtjllbchfojonhaaDoor
open Go.RowKit
set_option linter.unusedVariables false
set_option linter.unusedSimpArgs false

section
variable {f : FuncM} {b place v : Nat} {x : InstM} {vi vb va vn : Value}
theorem put_nb : (f.putF b place x vi vb).nb = f.nb := by show (f.blocks.2.set b _).length = _; rw [List.length_set]; rfl
theorem put_blk (hb : b < f.nb) (c : Nat) : (f.putF b place x vi vb).blocks.2[c]! = if c = b then newB f.blocks.2[b]! place x vi else f.blocks.2[c]! := by
 show (f.blocks.2.set b _)[c]! = _
 have hb' : b < f.blocks.2.length := hb
 by_cases hc : c < f.blocks.2.length
 ·rw [getElem!_pos _ c (by simpa using hc), getElem!_pos f.blocks.2 c hc, List.getElem_set]
  by_cases e : b = c
  ·rw [if_pos e, if_pos e.symm]
  ·rw [if_neg e, if_neg (Ne.symm e)]
 ·rw [getElem!_neg _ c (by simpa using hc), getElem!_neg f.blocks.2 c hc, if_neg (by omega)]
theorem fewPh_le {l : List PhiM} {n m : Nat} (h : fewPh l n = some m) : n ≤ m := by
 induction l generalizing n with
 | nil => exact Nat.le_of_eq (Option.some.inj h)
 | cons p l ih =>
  unfold fewPh at h
  split at h
  ·cases h
  ·have := ih h; omega
theorem fewIn_le {l : List InstM} {n m : Nat} (h : fewIn l n = some m) : n ≤ m := by
 induction l generalizing n with
 | nil => exact Nat.le_of_eq (Option.some.inj h)
 | cons p l ih =>
  unfold fewIn at h
  split at h
  ·cases h
  ·have := ih h; omega
theorem fewBl_sum {l : List BlockM} {n m : Nat} (h : fewBl l n = some m) : n + (l.map fun b => b.name.size + 10 * (b.phis.2.length + b.insts.2.length)).sum ≤ m ∧ (m = n ∨ m ≤ 4000) := by
 induction l generalizing n with
 | nil => have := Option.some.inj h; simp; omega
 | cons y l ih =>
  unfold fewBl fewOne at h
  split at h
  ·cases h
  ·obtain ⟨m1, h1, h⟩ := Option.bind_eq_some_iff.1 h
   obtain ⟨m2, h2, h⟩ := Option.bind_eq_some_iff.1 h
   split at h
   ·cases h
   ·have g1 := fewPh_le h1
    have g2 := fewIn_le h2
    have g3 := ih h
    simp only [List.map_cons, List.sum_cons]
    omega
theorem sum_mem {l : List BlockM} {g : BlockM → Nat} {y : BlockM} (h : y ∈ l) : g y ≤ (l.map g).sum := by
 induction l with
 | nil => cases h
 | cons z l ih =>
  simp only [List.map_cons, List.sum_cons]
  rcases List.mem_cons.1 h with rfl | h
  ·omega
  ·have := ih h; omega
theorem sum_le {l : List BlockM} {g k : BlockM → Nat} (h : ∀ y, g y ≤ k y) : (l.map g).sum ≤ (l.map k).sum := by
 induction l with
 | nil => exact Nat.le_refl _
 | cons z l ih => simp only [List.map_cons, List.sum_cons]; have := h z; omega
theorem sum_ten {l : List BlockM} : 10 * bsum l ≤ (l.map fun b => b.name.size + 10 * (b.phis.2.length + b.insts.2.length)).sum := by
 unfold bsum
 induction l with
 | nil => exact Nat.le_refl _
 | cons z l ih => simp only [List.map_cons, List.sum_cons]; omega
theorem few_sum (h : fewB f = true) : (f.blocks.2.map fun b => b.name.size + 10 * (b.phis.2.length + b.insts.2.length)).sum ≤ 4000 := by
 unfold fewB at h
 split at h
 ·cases h
 ·obtain ⟨m, hm⟩ := Option.isSome_iff_exists.1 h
  obtain ⟨n, h1, h2⟩ := Option.bind_eq_some_iff.1 hm
  have := fewBl_sum h2
  omega
theorem few_nb (h : fewB f = true) (hs : shapedB f = true) {c : Nat} (hc : c < f.nb) : f.blocks.2[c]!.insts.2.length ≤ 399 := by
 have h1 := Nat.le_trans (sum_mem (g := fun b => b.name.size + 10 * (b.phis.2.length + b.insts.2.length)) (bang_mem (l := f.blocks.2) (k := c) hc)) (few_sum h)
 unfold shapedB namesB at hs
 simp only [Bool.and_eq_true] at hs
 have h2 := hs.1.2
 unfold bnames at h2
 have h3 := ((unlike_iff BlockM.name f.blocks.2).1 h2 c hc).1
 unfold nameB at h3
 simp only [Bool.and_eq_true, decide_eq_true_eq] at h3
 have h4 := h3.1.2
 omega
theorem ty_of (hs : shapedB f = true) (hv : v < f.nv) : f.ty v = 0 ∨ f.ty v = 1 ∨ f.ty v = 2 := shaped_ty hs hv
theorem ntk_n : ntk 10 = 1 ∧ ntk 16 = 0 ∧ ntk 0 = 0 ∧ mk1 10 = true ∧ mk1 16 = true ∧ mk1 0 = true ∧ tkT 10 0 = 1 ∧ mkT 10 = 1 ∧ mkT 16 = 2 ∧ mkT 0 = 0 := by
 refine ⟨?_, ?_, ?_, ?_, ?_, ?_, ?_, ?_, ?_, ?_⟩ <;> kernel_rfl
theorem inB_nat {n : Nat} (hv : v < n) : inB (v : Int) n = true := by unfold inB; simp; exact hv
theorem x_shaped (hs : shapedB f = true) (hv : v < f.nv) : instB f (xOf f v va vn) = true := by
 obtain ⟨n1, n2, n3, n4, n5, n6, _⟩ := ntk_n
 have hi := inB_nat (n := f.nv) hv
 unfold xOf
 split
 ·unfold instB
  rw [n1, n4, if_pos rfl, hi]; simp [hi]
 ·split
  ·unfold instB
   rw [n2, n5, if_pos rfl, hi]; simp
  ·unfold instB
   rw [n3, n6, if_pos rfl, hi]; simp
theorem x_typed (hs : shapedB f = true) (hv : v < f.nv) : tinstB f (xOf f v va vn) = true := by
 obtain ⟨n1, n2, n3, n4, n5, n6, n7, n8, n9, n10⟩ := ntk_n
 have ht : f.tyI (v : Int) = f.ty v := rfl
 unfold xOf
 split
 ·rename_i h
  unfold tinstB
  rw [n1, n4, n8, if_neg (by simp), ht, h, Bool.and_eq_true, allR_iff]
  refine ⟨fun i hi => ?_, by simp⟩
  obtain rfl : i = 0 := by omega
  rw [n7]
  show (f.tyI ((v : Nat) : Int) == 1) = true
  rw [ht, h]; rfl
 ·split
  ·rename_i h
   unfold tinstB
   rw [n2, n5, n9, if_neg (by simp), ht, h, Bool.and_eq_true, allR_iff]
   exact ⟨fun i hi => absurd hi (Nat.not_lt_zero _), by simp⟩
  ·rename_i h1 h2
   have h : f.ty v = 0 := by rcases ty_of hs hv with h | h | h <;> omega
   unfold tinstB
   rw [n3, n6, n10, if_neg (by simp), ht, h, Bool.and_eq_true, allR_iff]
   exact ⟨fun i hi => absurd hi (Nat.not_lt_zero _), by simp⟩
theorem ins_all {α : Type} {p : α → Bool} {l : List α} {x : α} (h : l.all p = true) (hx : p x = true) (k : Nat) : (l.take k ++ x :: l.drop k).all p = true := by
 rw [List.all_eq_true] at h ⊢
 intro y hy
 rcases List.mem_append.1 hy with h1 | h1
 ·exact h y (List.mem_of_mem_take h1)
 ·rcases List.mem_cons.1 h1 with rfl | h1
  ·exact hx
  ·exact h y (List.mem_of_mem_drop h1)
theorem set_all {p : BlockM → Bool} {l : List BlockM} {b : Nat} {y : BlockM} (h : l.all p = true) (hy : p y = true) : (l.set b y).all p = true := by
 rw [List.all_eq_true] at h ⊢
 intro z hz
 rcases List.mem_or_eq_of_mem_set hz with h1 | rfl
 ·exact h z h1
 ·exact hy
theorem set_map {β : Type} {g : BlockM → β} {l : List BlockM} {b : Nat} {y : BlockM} (hb : b < l.length) (h : g y = g l[b]!) : (l.set b y).map g = l.map g := by
 apply List.ext_getElem (by simp)
 intro i h1 h2
 simp only [List.length_map, List.length_set] at h1 h2
 rw [List.getElem_map, List.getElem_map, List.getElem_set]
 split
 ·rename_i e; subst e; rw [h, getElem!_pos l b hb]
 ·rfl
theorem bsum_set {l : List BlockM} {b : Nat} {y : BlockM} (hb : b < l.length) (h : y.phis.2.length + y.insts.2.length = l[b]!.phis.2.length + l[b]!.insts.2.length + 1) : bsum (l.set b y) = bsum l + 1 := by
 unfold bsum
 induction l generalizing b with
 | nil => cases hb
 | cons z l ih =>
  cases b with
  | zero => simp at h ⊢; omega
  | succ b => have := ih (b := b) (by simpa using hb) (by simpa using h); simp at this ⊢; omega
theorem put_shaped (hs : (shapedB f && slotB f) = true) (hfew : fewB f = true) (hv : v < f.nv) (hb : b < f.nb) (hpl : place ≤ f.blocks.2[b]!.insts.2.length) : shapedB (f.putF b place (xOf f v va vn) vi vb) = true := by
 have hsh : shapedB f = true := by rw [Bool.and_eq_true] at hs; exact hs.1
 have hx := x_shaped (va := va) (vn := vn) hsh hv
 generalize xOf f v va vn = x at *
 have hnb := put_nb (f := f) (b := b) (place := place) (x := x) (vi := vi) (vb := vb)
 have hsum : bsum (f.putF b place x vi vb).blocks.2 ≤ 1024 := by
  have h1 := few_sum hfew
  have h2 := sum_ten (l := f.blocks.2)
  have h3 : bsum (f.putF b place x vi vb).blocks.2 = bsum f.blocks.2 + 1 := bsum_set (l := f.blocks.2) hb (by
   show f.blocks.2[b]!.phis.2.length + (f.blocks.2[b]!.insts.2.take place ++ x :: f.blocks.2[b]!.insts.2.drop place).length = _
   rw [ins_len _ _ _ hpl]; omega)
  omega
 have e1 : ∀ y, blockB (f.putF b place x vi vb) y = blockB f y := fun y => by
  unfold blockB termB
  have e2 : phiB (f.putF b place x vi vb) = phiB f := by funext p; unfold phiB; rw [hnb]; rfl
  rw [e2, hnb]; rfl
 have e3 : bnames (f.putF b place x vi vb) = bnames f := set_map (g := BlockM.name) hb rfl
 have hB : (f.putF b place x vi vb).blocks.2.all (blockB (f.putF b place x vi vb)) = true := by
  rw [show blockB (f.putF b place x vi vb) = blockB f from funext e1]
  unfold shapedB at hsh
  simp only [Bool.and_eq_true] at hsh
  refine set_all hsh.2.1 ?_
  have h1 := all_at hsh.2.1 hb
  unfold blockB at h1 ⊢
  simp only [Bool.and_eq_true] at h1 ⊢
  exact ⟨⟨h1.1.1, ins_all h1.1.2 hx place⟩, h1.2⟩
 unfold shapedB at hsh ⊢
 rw [Bool.and_eq_true] at hsh ⊢
 refine ⟨?_, by rw [Bool.and_eq_true]; exact ⟨hB, by simpa using hsum⟩⟩
 have h1 := hsh.1
 unfold namesB at h1 ⊢
 rw [hnb, e3]
 exact h1
theorem put_slot (hs : (shapedB f && slotB f) = true) (hfew : fewB f = true) (hv : v < f.nv) (hb : b < f.nb) (hpl : place ≤ f.blocks.2[b]!.insts.2.length) : slotB (f.putF b place (xOf f v va vn) vi vb) = true := by
 have hsh : shapedB f = true := by rw [Bool.and_eq_true] at hs; exact hs.1
 have hx := x_typed (va := va) (vn := vn) hsh hv
 have ho : (xOf f v va vn).op = 10 ∨ (xOf f v va vn).op = 16 ∨ (xOf f v va vn).op = 0 := by
  unfold xOf
  split
  ·exact .inl rfl
  ·split
   ·exact .inr (.inl rfl)
   ·exact .inr (.inr rfl)
 generalize xOf f v va vn = x at *
 have h1 : slotB f = true := by rw [Bool.and_eq_true] at hs; exact hs.2
 unfold slotB typedB at h1 ⊢
 rw [Bool.and_eq_true] at h1 ⊢
 obtain ⟨h2, h3⟩ := h1
 have g2 := all_at h2 hb
 have g3 := all_at h3 hb
 constructor
 ·rw [show tblockB (f.putF b place x vi vb) = tblockB f from rfl]
  refine set_all h2 ?_
  unfold tblockB at g2 ⊢
  simp only [Bool.and_eq_true] at g2 ⊢
  exact ⟨⟨g2.1.1, ins_all g2.1.2 hx place⟩, g2.2⟩
 ·refine set_all h3 ?_
  simp only [Bool.and_eq_true] at g3 ⊢
  refine ⟨g3.1, ins_all (p := fun x : InstM => !(x.op == 25 || x.op == 26)) g3.2 ?_ place⟩
  rcases ho with h | h | h <;> rw [h] <;> rfl
theorem put_few (hs : (shapedB f && slotB f) = true) (hfew : fewB f = true) (hv : v < f.nv) (hb : b < f.nb) (hpl : place ≤ f.blocks.2[b]!.insts.2.length) : FewP (f.putF b place x vi vb) := by
 have hsh : shapedB f = true := by rw [Bool.and_eq_true] at hs; exact hs.1
 have h := fewB_p hfew
 refine ⟨h.nv, by rw [put_nb]; exact h.nb, h.np, fun y hy => ?_⟩
 rcases List.mem_or_eq_of_mem_set hy with h1 | rfl
 ·exact h.block y h1
 ·refine ⟨(h.block _ (bang_mem hb)).1, ?_⟩
  show (f.blocks.2[b]!.insts.2.take place ++ x :: f.blocks.2[b]!.insts.2.drop place).length ≤ 400
  rw [ins_len _ _ _ hpl]
  have := few_nb hfew hsh hb
  omega
theorem x_num : inI (xOf f v va vn).num = true := by
 unfold xOf
 split
 ·exact inI_zero
 ·split
  ·exact inI_zero
  ·exact (by decide : inI 77 = true)
theorem put_nums {i : InputM} (hn : NumsOK f i) (hb : b < f.nb) : NumsOK (f.putF b place (xOf f v va vn) vi vb) i := by
 refine ⟨fun y hy z hz => ?_, hn.a, hn.e⟩
 rcases List.mem_or_eq_of_mem_set hy with h1 | rfl
 ·exact hn.f y h1 z hz
 ·have hm := bang_mem (l := f.blocks.2) (k := b) hb
  rcases List.mem_append.1 hz with h1 | h1
  ·exact hn.f _ hm z (List.mem_of_mem_take h1)
  ·rcases List.mem_cons.1 h1 with rfl | h1
   ·exact x_num
   ·exact hn.f _ hm z (List.mem_of_mem_drop h1)
theorem put_right (i : InputM) : rightZ (f.putF b place x vi vb) i = rightZ f i := rfl

/-! the runs -/
theorem step_congr {p q : Nat → BlockM} (h : ∀ c, (p c).phis = (q c).phis ∧ (p c).insts.2 = (q c).insts.2 ∧ (p c).kind = (q c).kind ∧ (p c).var = (q c).var ∧ (p c).to0 = (q c).to0 ∧ (p c).to1 = (q c).to1) (s : StM) : stepM p s = stepM q s := by
 have he : ∀ (s : StM) (tb : Nat), enterM p s tb = enterM q s tb := fun s tb => by unfold enterM; rw [(h tb).1]
 unfold stepM
 simp only [he, (h s.block).2.1, (h s.block).2.2.1, (h s.block).2.2.2.1, (h s.block).2.2.2.2.1, (h s.block).2.2.2.2.2]
theorem run_congr {p q : Nat → BlockM} (h : ∀ c, (p c).phis = (q c).phis ∧ (p c).insts.2 = (q c).insts.2 ∧ (p c).kind = (q c).kind ∧ (p c).var = (q c).var ∧ (p c).to0 = (q c).to0 ∧ (p c).to1 = (q c).to1) (k : Nat) (s : StM) : runM p k s = runM q k s := by
 induction k generalizing s with
 | zero => rfl
 | succ k ih => unfold runM; rw [step_congr h, ih]
theorem put_run (hb : b < f.nb) (k : Nat) (s : StM) : runM (fun c => (f.putF b place x vi vb).blocks.2[c]!) k s = runM (putIn (fun c => f.blocks.2[c]!) b place x) k s := by
 refine run_congr (fun c => ?_) k s
 rw [put_blk hb]
 unfold putIn
 split
 ·exact ⟨rfl, rfl, rfl, rfl, rfl, rfl⟩
 ·exact ⟨rfl, rfl, rfl, rfl, rfl, rfl⟩
/-- not ended: nothing came of it yet -/
def OpenE (t : StM) : Prop := t.ended = true ∨ t.out.ending = 3
theorem openE_ite {a b : StM} {c : Prop} [Decidable c] (h1 : OpenE a) (h2 : OpenE b) : OpenE (if c then a else b) := by split <;> assumption
theorem inst_open {s : StM} (x : InstM) (h : OpenE s) : OpenE (instM s x) := by
 refine openE_ite ?_ ?_
 ·unfold checkM
  simp only
  repeat' (first | exact h | exact .inl rfl | apply openE_ite)
 ·unfold rawM
  simp only
  repeat' (first | exact h | exact .inl rfl | exact .inr rfl | apply openE_ite)
theorem phisTo_out (l : List PhiM) (old s : StM) (b : Nat) : (phisTo l old s b).out = s.out ∧ (phisTo l old s b).ended = s.ended := by
 unfold phisTo
 induction l generalizing s with
 | nil => exact ⟨rfl, rfl⟩
 | cons p l ih =>
  rw [List.foldl_cons]
  refine ⟨(ih _).1.trans ?_, (ih _).2.trans ?_⟩ <;> (split <;> rfl)
theorem step_open {p : Nat → BlockM} {s : StM} (h : OpenE s) : OpenE (stepM p s) := by
 have he : ∀ tb : Nat, OpenE (enterM p { s with out := { s.out with steps := s.out.steps + 1 } } tb) := fun tb => by
  unfold enterM
  refine openE_ite ?_ (.inl rfl)
  obtain ⟨e1, e2⟩ := phisTo_out (p tb).phis.2 { s with out := { s.out with steps := s.out.steps + 1 } } { s with out := { s.out with steps := s.out.steps + 1 } } s.block
  rcases h with h | h
  ·exact .inl (e2.trans h)
  ·refine .inr ?_
   show (phisTo _ _ _ _).out.ending = 3
   rw [e1]; exact h
 unfold stepM
 simp only
 refine openE_ite (inst_open _ h) (openE_ite (.inl rfl) (openE_ite (he _) (he _)))
theorem run_open {p : Nat → BlockM} {s : StM} (k : Nat) (h : OpenE s) : OpenE (runM p k s) := by
 induction k generalizing s with
 | zero => exact h
 | succ k ih =>
  unfold runM
  split
  ·exact h
  ·exact ih (step_open h)
theorem x_put (htv : f.ty v = 0 ∨ f.ty v = 1 ∨ f.ty v = 2) : putOf f.tyI v (xOf f v va vn) := by
 have ht : f.tyI (v : Int) = f.ty v := rfl
 refine ⟨fun s h => ?_, fun s h => ?_, fun s h => ?_⟩
 ·rw [ht] at h; unfold xOf; rw [if_neg (by omega), if_neg (by omega)]; rfl
 ·rw [ht] at h; unfold xOf; rw [if_pos h]; rfl
 ·rw [ht] at h; unfold xOf; rw [if_neg (by omega), if_pos h]; rfl
theorem not_live (hv : v < f.nv) (h : ¬ (v : Int) ∈ liveL f b place) : liveB f.blk v b place = false := by
 cases hl : liveB f.blk v b place with
 | false => rfl
 | true =>
  exfalso
  apply h
  unfold liveL natI
  exact List.mem_map.2 ⟨v, List.mem_filter.2 ⟨List.mem_range.2 hv, hl⟩, rfl⟩
/-- the law: ended, they are alike -/
theorem dead_law {i : InputM} (hs : (shapedB f && slotB f) = true) (hfew : fewB f = true) (hr : rightZ f i = 0) (hn : NumsOK f i) (hv : v < f.nv) (hb : b < f.nb) (hpl : place ≤ f.blocks.2[b]!.insts.2.length) (hl : ¬ (v : Int) ∈ liveL f b place) (k : Nat) :
  ((runOf f i k).ending ≠ 3 → AlikeC (runOf f i k) (runOf (f.putF b place (xOf f v va vn) vi vb) i (2 * k))) ∧
  ((runOf (f.putF b place (xOf f v va vn) vi vb) i k).ending ≠ 3 → AlikeC (runOf f i k) (runOf (f.putF b place (xOf f v va vn) vi vb) i k)) := by
 have hsh : shapedB f = true := by rw [Bool.and_eq_true] at hs; exact hs.1
 have htv := ty_of hsh hv
 have hlb := not_live hv hl
 have hgood := begin_good hsh hn hr
 have hnb := (shaped_np hsh).2
 have hok : ∀ c, c < f.nb → BlockOK f.nb f.nv f.tyI f.blocks.2[c]! := fun c hc => (block_ok hs hc).1
 have hphi : ∀ c, c < f.nb → f.blocks.2[c]!.phis.2 = [] := fun c hc => (block_ok hs hc).2
 have hx := x_put (va := va) (vn := vn) htv
 have hput : ∀ c, c < f.nb → BlockOK f.nb f.nv f.tyI (putIn (fun c => f.blocks.2[c]!) b place (xOf f v va vn) c) ∧ (putIn (fun c => f.blocks.2[c]!) b place (xOf f v va vn) c).phis.2 = [] := fun c hc => by
  unfold putIn
  split
  ·rename_i e
   have hg : (shapedB (f.putF b place (xOf f v va vn) vi vb) && slotB (f.putF b place (xOf f v va vn) vi vb)) = true := by rw [put_shaped hs hfew hv hb hpl, put_slot hs hfew hv hb hpl]; rfl
   have h := block_ok hg (b := b) (by rw [put_nb]; exact hb)
   rw [put_blk hb, if_pos rfl, put_nb] at h
   exact ⟨⟨h.1.inst, h.1.kind, h.1.jump, h.1.iff, h.1.ret⟩, h.2⟩
  ·exact ⟨hok c hc, hphi c hc⟩
 unfold runOf
 rw [put_run hb, put_run hb]
 rw [show (f.putF b place (xOf f v va vn) vi vb).nv = f.nv from rfl, show (f.putF b place (xOf f v va vn) vi vb).tyI = f.tyI from rfl]
 have ho : OpenE (beginM f.nv f.tyI i.args.2 (i.arrays.2.map Prod.snd)) := .inr rfl
 have hlt : (beginM f.nv f.tyI i.args.2 (i.arrays.2.map Prod.snd)).block < f.nb := hnb
 have hpc : (beginM f.nv f.tyI i.args.2 (i.arrays.2.map Prod.snd)).pc = 0 := rfl
 generalize beginM f.nv f.tyI i.args.2 (i.arrays.2.map Prod.snd) = s at *
 generalize xOf f v va vn = x at *
 have hS : SimD (fun c => f.blocks.2[c]!) f.nb f.nv f.tyI b place s.st0 s.st0 :=
  ⟨hgood.f.of rfl rfl rfl, hgood.f.of rfl rfl rfl, ⟨rfl, rfl, rfl, rfl, rfl⟩, hlt, .inl ⟨rfl, fun _ => by show s.pc ≤ _; omega⟩, fun _ u _ _ => ⟨fun _ => rfl, fun _ => rfl, fun _ => rfl⟩⟩
 have hD := dead_both (x := x) hok hpl hv htv hx hlb k hS
 have q1 : ∀ m, (runM (fun c => f.blocks.2[c]!) m s).st0 = runN (fun c => f.blocks.2[c]!) m s.st0 := fun m => run_st0 hphi hok m hlt
 have q2 : ∀ m, (runM (putIn (fun c => f.blocks.2[c]!) b place x) m s).st0 = runN (putIn (fun c => f.blocks.2[c]!) b place x) m s.st0 := fun m => run_st0 (fun c hc => (hput c hc).2) (fun c hc => (hput c hc).1) m hlt
 rw [← q1, ← q2, ← q2] at hD
 constructor
 ·intro h
  have he : (runM (fun c => f.blocks.2[c]!) k s).ended = true := (run_open k ho).resolve_right h
  exact hD.1 he
 ·intro h
  have he : (runM (putIn (fun c => f.blocks.2[c]!) b place x) k s).ended = true := (run_open k ho).resolve_right h
  exact hD.2 he
end
end Go.Proofs.YtjllbchfojonhaaDoor
