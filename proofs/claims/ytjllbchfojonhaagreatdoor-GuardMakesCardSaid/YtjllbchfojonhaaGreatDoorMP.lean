/- The made program: the places gone through backwards give its contents; its shape, types, length (plain). -/
import Derived.Test.YtjllbchfojonhaaGreatDoorGM0
import Derived.Test.YtjllbchfojonhaaGreatDoorCN
namespace Go.Proofs.YtjllbchfojonhaaGreatDoor
open Go.RowKit
set_option linter.unusedVariables false
set_option linter.unusedSimpArgs false
open Classical in
theorem gdD_is {f : FuncM} {b j : Nat} (h : guardD f b j = true) : GuardP f b j := of_decide_eq_true h
theorem ty_both {f : FuncM} (h : typedE f = 0) : (shapedB f && typedB f) = true := by
 unfold typedE at h; split at h
 ·assumption
 ·cases h
/-! the places' contents -/
theorem take_bang (l R : List InstM) (j : Nat) (hj : j < l.length) : l.take (j + 1) ++ R = l.take j ++ (l[j]! :: R) := by
 rw [List.take_succ_eq_append_getElem hj, getElem!_pos l j hj, List.append_assoc]; rfl
theorem insL_at (l R : List InstM) (j : Nat) (hj : j < l.length) : insL (l.take (j + 1) ++ R) j = l.take j ++ (needI l[j]! :: l[j]! :: R) := by
 rw [take_bang l R j hj]
 have hl : (l.take j).length = j := by rw [List.length_take]; omega
 unfold insL
 rw [List.take_append_of_le_length (by omega), List.take_of_length_le (by omega), List.drop_append_of_le_length (by omega), List.drop_of_length_le (by omega), getElem!_pos _ j (by simp; omega), List.getElem_append_right (by omega)]
 simp [hl]
theorem foldr_lack (lk : Nat → Bool) (l : List InstM) : ∀ (j : Nat) (R : List InstM), j ≤ l.length → ((List.range j).filter lk).foldr (fun i l => insL l i) (l.take j ++ R) = mkL lk l j ++ R := fun j => by
 induction j with
 | zero => intro R _; simp [mkL]
 | succ j ih =>
  intro R hj
  rw [List.range_succ, List.filter_append, List.foldr_append, mkL_succ]
  cases h : lk j with
  | true =>
   rw [List.filter_cons_of_pos h]
   simp only [List.filter_nil, List.foldr_cons, List.foldr_nil]
   rw [insL_at l R j (by omega), ih _ (by omega)]
   unfold mkO
   rw [if_pos h]; simp
  | false =>
   rw [List.filter_cons_of_neg (by rw [h]; decide)]
   simp only [List.filter_nil, List.foldr_nil]
   rw [take_bang l R j (by omega), ih _ (by omega)]
   unfold mkO
   rw [if_neg (by rw [h]; decide)]; simp
def stepP (b : Nat) (p : Nat × Nat) (l : List InstM) : List InstM := if p.1 = b then insL l p.2 else l
theorem step_no (b : Nat) : ∀ (ps : List (Nat × Nat)) (l : List InstM), (∀ p ∈ ps, p.1 ≠ b) → ps.foldr (stepP b) l = l
 | [], l, _ => rfl
 | p :: ps, l, h => by
  rw [List.foldr_cons, step_no b ps l fun q hq => h q (List.mem_cons_of_mem _ hq)]
  unfold stepP; rw [if_neg (h p (by simp))]
theorem step_map (b : Nat) : ∀ (is : List Nat) (l : List InstM), (is.map fun i => (b, i)).foldr (stepP b) l = is.foldr (fun i l => insL l i) l
 | [], l => rfl
 | i :: is, l => by
  rw [List.map_cons, List.foldr_cons, List.foldr_cons, step_map b is l]
  unfold stepP; rw [if_pos rfl]
theorem step_all (b : Nat) (F : Nat → List (Nat × Nat)) (hF : ∀ a, ∀ p ∈ F a, p.1 = a) : ∀ (m : Nat) (l : List InstM), ((List.range m).flatMap F).foldr (stepP b) l = if b < m then (F b).foldr (stepP b) l else l := fun m => by
 induction m with
 | zero => intro l; simp
 | succ m ih =>
  intro l
  rw [List.range_succ, List.flatMap_append, List.foldr_append]
  rw [show [m].flatMap F = F m by simp]
  rw [ih]
  by_cases e : b = m
  ·subst e
   rw [if_neg (by omega), if_pos (by omega)]
  ·rw [step_no b (F m) l fun p hp h => e (by rw [← h, hF m p hp])]
   by_cases h : b < m
   ·rw [if_pos h, if_pos (by omega)]
   ·rw [if_neg h, if_neg (by omega)]
theorem fin_bang {β γ : Type} [Inhabited β] (zs : List β) (s : β → γ → γ) (l : γ) : (List.finRange zs.length).foldr (fun x l => s zs[x.1]! l) l = zs.foldr s l := by
 have : (List.finRange zs.length).map (fun x => zs[x.1]!) = zs := by
  refine List.ext_getElem (by simp) fun i h1 h2 => ?_
  rw [List.getElem_map, getElem!_pos zs _ (by simpa using h2)]; simp
 conv => rhs; rw [← this]
 rw [List.foldr_map]
/-- all places gone through backwards: the made block -/
theorem contE_made {f : FuncM} (hT : typedE f = 0) {b : Nat} (hb : b < f.nb) : contE f (placesL f) (List.finRange (placesL f).length).reverse b = madeI f b := by
 unfold contE
 rw [List.foldl_reverse]
 refine (fin_bang (placesL f) (stepP b) f.blocks.2[b]!.insts.2).trans ?_
 unfold placesL
 rw [if_pos hT]
 unfold lackTo
 rw [show lackB f f.nb 0 = [] by simp [lackB], List.append_nil, step_all b _ (fun a p hp => by
  unfold lackB at hp
  obtain ⟨i, _, rfl⟩ := List.mem_map.1 hp
  rfl), if_pos hb]
 unfold lackB
 rw [step_map]
 have := foldr_lack (fun j => !guardD f b j) f.blocks.2[b]!.insts.2 f.blocks.2[b]!.insts.2.length [] (Nat.le_refl _)
 rw [List.take_length, List.append_nil, List.append_nil] at this
 exact this
/-! how many -/
theorem mkL_len (lk : Nat → Bool) (l : List InstM) : ∀ j, (mkL lk l j).length = j + ((List.range j).filter lk).length := fun j => by
 induction j with
 | zero => rfl
 | succ j ih =>
  rw [mkL_succ, List.length_append, ih, List.range_succ, List.filter_append, List.length_append]
  cases h : lk j with
  | true => rw [List.filter_cons_of_pos h]; unfold mkO; rw [if_pos h]; simp; omega
  | false => rw [List.filter_cons_of_neg (by rw [h]; decide)]; unfold mkO; rw [if_neg (by rw [h]; decide)]; simp; omega
theorem lackTo_len (f : FuncM) (b j : Nat) : (lackTo f b j).length = (lackTo f b 0).length + ((List.range j).filter fun i => !guardD f b i).length := by
 unfold lackTo lackB
 simp
theorem made_len (f : FuncM) (b : Nat) : (madeI f b).length = f.blocks.2[b]!.insts.2.length + ((List.range f.blocks.2[b]!.insts.2.length).filter fun i => !guardD f b i).length := mkL_len _ _ _
theorem made_sumK {f g : FuncM} (h : ProgS (madeI f) f g) : ∀ k, k ≤ f.nb → bsum (g.blocks.2.take k) = phT f k + inT f k + (lackTo f k 0).length := fun k => by
 induction k with
 | zero => intro _; simp [bsum, phT, inT, lackTo, lackB]
 | succ k ih =>
  intro hk
  have hg : g.blocks.2.length = f.nb := h.nb
  rw [bsum_snoc _ _ (by omega), ih (by omega), phT_step f k hk, inT_step f k hk, lack_next, lackTo_len f k f.blocks.2[k]!.insts.2.length, (h.blk k hk).plen, (h.blk k hk).ilen, made_len]
  omega
theorem made_sum {f g : FuncM} (hT : typedE f = 0) (h : ProgS (madeI f) f g) : bsum g.blocks.2 = phT f f.nb + inT f f.nb + (placesL f).length := by
 have := made_sumK h f.nb (Nat.le_refl _)
 have hg : g.blocks.2.length = f.nb := h.nb
 rw [← hg, List.take_length, hg] at this
 rw [this]
 unfold placesL
 rw [if_pos hT]
/-! shape and types -/
section
variable {f g : FuncM}
theorem nvS {Y : Nat → List InstM} (h : ProgS Y f g) : g.nv = f.nv := by unfold FuncM.nv; rw [h.vars]
theorem npS {Y : Nat → List InstM} (h : ProgS Y f g) : g.np = f.np := by unfold FuncM.np; rw [h.params]
theorem tyS {Y : Nat → List InstM} (h : ProgS Y f g) : g.ty = f.ty := by funext k; unfold FuncM.ty; rw [h.vars]
theorem tyIS {Y : Nat → List InstM} (h : ProgS Y f g) : g.tyI = f.tyI := by funext k; unfold FuncM.tyI; rw [tyS h]
theorem instB_same {x y : InstM} (hn : g.nv = f.nv) (h : SameI x y) : instB g x = instB f y := by
 unfold instB; rw [h.1, h.2.1, h.2.2.1, h.2.2.2, hn]
theorem tinstB_same {x y : InstM} (hn : g.tyI = f.tyI) (h : SameI x y) : tinstB g x = tinstB f y := by
 unfold tinstB; rw [h.1, h.2.1, h.2.2.1, hn]
theorem phiB_same {p q : PhiM} (hn : g.nv = f.nv) (hb : g.nb = f.nb) (h : PhiS p q) : phiB g q = phiB f p := by
 unfold phiB; rw [h.1, h.2.1, h.2.2, hn, hb]
theorem tphiB_same {p q : PhiM} (hn : g.tyI = f.tyI) (h : PhiS p q) : tphiB g q = tphiB f p := by
 unfold tphiB; rw [h.1, h.2.1, hn]
theorem raw_some {x : InstM} (h0 : 0 ≤ x.op ∧ x.op < 27) (hl : x.args.2.length = ntk x.op) (hr : inL rawL x.op = true) :
  ∃ c d : Nat, (needI x).op = c ∧ 17 ≤ c ∧ c < 25 ∧ (needI x).args.2.length = ntk c ∧ mk1 c = false ∧ (∀ i, i < ntk c → i + d < x.args.2.length ∧ (needI x).args.2[i]! = x.args.2[i + d]! ∧ tkT c i = tkT x.op (i + d)) ∧ x.op ≠ 1 := by
 generalize hk : x.op.toNat = k at *
 have hxk : x.op = (k : Int) := by omega
 have e0 : (needI x).op = (needC k).1 := by unfold needI; rw [hk]
 have e1 : (needI x).args.2 = (x.args.2.drop (needC k).2.1).take (needC k).2.2 := by unfold needI needA; rw [hk]
 have hat : ∀ i, i < (needC k).2.2 → i + (needC k).2.1 < x.args.2.length → (needI x).args.2[i]! = x.args.2[i + (needC k).2.1]! := fun i hi h2 => by
  rw [e1, getElem!_pos _ i (by rw [List.length_take, List.length_drop]; omega), getElem!_pos x.args.2 (i + (needC k).2.1) h2, List.getElem_take, List.getElem_drop]
  congr 1; omega
 have hlen : (needI x).args.2.length = min (needC k).2.2 (x.args.2.length - (needC k).2.1) := by rw [e1, List.length_take, List.length_drop]
 rw [hxk] at hl hr ⊢
 have hl2 : x.args.2.length = (ktakes k).size := by rw [hl]; unfold ntk; rw [Int.toNat_natCast]
 rcases raw_cases (k := k) (by omega) hr with rfl | rfl | rfl | rfl | rfl | rfl
 ·refine ⟨20, 1, e0, by decide, by decide, by rw [hlen, hl2]; decide, by decide, fun i hi => ?_, by decide⟩
  have hi0 : i < 1 := hi
  have h2 : i + 1 < x.args.2.length := by rw [hl2]; show i + 1 < 2; omega
  exact ⟨h2, hat i hi0 h2, by rw [show i = 0 by omega]; decide⟩
 ·refine ⟨20, 1, e0, by decide, by decide, by rw [hlen, hl2]; decide, by decide, fun i hi => ?_, by decide⟩
  have hi0 : i < 1 := hi
  have h2 : i + 1 < x.args.2.length := by rw [hl2]; show i + 1 < 2; omega
  exact ⟨h2, hat i hi0 h2, by rw [show i = 0 by omega]; decide⟩
 ·refine ⟨19, 0, e0, by decide, by decide, by rw [hlen, hl2]; decide, by decide, fun i hi => ?_, by decide⟩
  have hi0 : i < 1 := hi
  have h2 : i + 0 < x.args.2.length := by rw [hl2]; show i + 0 < 1; omega
  exact ⟨h2, hat i hi0 h2, by rw [show i = 0 by omega]; decide⟩
 ·refine ⟨18, 0, e0, by decide, by decide, by rw [hlen, hl2]; decide, by decide, fun i hi => ?_, by decide⟩
  have hi0 : i < 2 := hi
  have h2 : i + 0 < x.args.2.length := by rw [hl2]; show i + 0 < 2; omega
  exact ⟨h2, hat i hi0 h2, by rcases (show i = 0 ∨ i = 1 by omega) with rfl | rfl <;> decide⟩
 ·refine ⟨18, 0, e0, by decide, by decide, by rw [hlen, hl2]; decide, by decide, fun i hi => ?_, by decide⟩
  have hi0 : i < 2 := hi
  have h2 : i + 0 < x.args.2.length := by rw [hl2]; show i + 0 < 3; omega
  exact ⟨h2, hat i hi0 h2, by rcases (show i = 0 ∨ i = 1 by omega) with rfl | rfl <;> decide⟩
 ·refine ⟨24, 0, e0, by decide, by decide, by rw [hlen, hl2]; decide, by decide, fun i hi => ?_, by decide⟩
  have hi0 : i < 1 := hi
  have h2 : i + 0 < x.args.2.length := by rw [hl2]; show i + 0 < 1; omega
  exact ⟨h2, hat i hi0 h2, by rw [show i = 0 by omega]; decide⟩
theorem need_inst {x : InstM} (h : instB f x = true) (hr : inL rawL x.op = true) : instB f (needI x) = true := by
 obtain ⟨h0, hl, ha, hd⟩ := inst_parts h
 obtain ⟨c, d, e, h1, h2, h3, h4, h5, _⟩ := raw_some h0 hl hr
 have hdst : (needI x).dst = -1 := rfl
 have hnum : (needI x).num = 0 := rfl
 have h6 : (needI x).args.2.all (inB · f.nv) = true := all_yes fun j hj => by
  obtain ⟨q1, q2, _⟩ := h5 j (by rw [← h3]; exact hj)
  rw [q2]; exact ha _ (bang_mem q1)
 unfold instB
 rw [e, hdst, hnum, h6, h3, h4]
 simp
 omega
theorem need_tinst {x : InstM} (h : instB f x = true) (ht : tinstB f x = true) (hr : inL rawL x.op = true) : tinstB f (needI x) = true := by
 obtain ⟨h0, hl, ha, hd⟩ := inst_parts h
 obtain ⟨c, d, e, h1, h2, h3, h4, h5, h6⟩ := raw_some h0 hl hr
 unfold tinstB at ht ⊢
 rw [if_neg h6] at ht
 rw [e, if_neg (show ¬ ((c : Int) = 1) by omega), h4]
 rw [Bool.and_eq_true, allR_iff] at ht
 simp only [Bool.not_false, Bool.true_or, Bool.and_true, allR_iff, beq_iff_eq] at ht ⊢
 intro i hi
 obtain ⟨q1, q2, q3⟩ := h5 i hi
 rw [q2, q3]
 exact ht.1 _ (by rw [← hl]; exact q1)
theorem made_inst (hT : typedE f = 0) {b : Nat} (hb : b < f.nb) {k : Nat} (hk : k < (madeI f b).length) : instB f (madeI f b)[k]! = true ∧ tinstB f (madeI f b)[k]! = true := by
 have hs : shapedB f = true ∧ typedB f = true := by have := ty_both hT; rwa [Bool.and_eq_true] at this
 have hI := (shaped_blocks hs.1 _ (bang_mem (l := f.blocks.2) hb)).2.1
 have hY : ∀ x ∈ f.blocks.2[b]!.insts.2, tinstB f x = true := by
  have h9 := List.all_eq_true.1 hs.2 _ (bang_mem (l := f.blocks.2) hb)
  unfold tblockB at h9
  simp only [Bool.and_eq_true, List.all_eq_true] at h9
  exact h9.1.2
 obtain ⟨j, hj, hc⟩ := mkL_at _ _ _ k hk
 have hm := bang_mem hj
 have hlk : (!guardD f b j) = true → inL rawL f.blocks.2[b]!.insts.2[j]!.op = true := fun h => by
  cases hr : inL rawL f.blocks.2[b]!.insts.2[j]!.op with
  | true => rfl
  | false => rw [guardD_yes (f := f) (b := b) (pl := j) (.inl hr)] at h; cases h
 unfold madeI
 rcases hc with ⟨_, _, e⟩ | ⟨hl, _, e⟩ | ⟨_, _, e⟩
 ·rw [e]; exact ⟨hI _ hm, hY _ hm⟩
 ·rw [e]; exact ⟨need_inst (hI _ hm) (hlk hl), need_tinst (hI _ hm) (hY _ hm) (hlk hl)⟩
 ·rw [e]; exact ⟨hI _ hm, hY _ hm⟩
theorem made_names (h : ProgS (madeI f) f g) : namesB g = namesB f := by
 have hb : bnames g = bnames f := by
  unfold bnames
  exact (list_ext_bang (show f.blocks.2.length = g.blocks.2.length from h.nb.symm) fun k hk => (h.blk k hk).name.symm).symm
 unfold namesB vnames
 rw [hb, h.vars, h.params, nvS h, npS h, h.nb]
theorem made_blocks (hT : typedE f = 0) (h : ProgS (madeI f) f g) : g.blocks.2.all (blockB g) = true ∧ typedB g = true := by
 have hs : shapedB f = true ∧ typedB f = true := by have := ty_both hT; rwa [Bool.and_eq_true] at this
 have hB : ∀ b, b < g.blocks.2.length → blockB g g.blocks.2[b]! = true ∧ tblockB g g.blocks.2[b]! = true := fun b hb => by
  have hb : b < f.nb := by rw [← h.nb]; exact hb
  have hz := h.blk b hb
  obtain ⟨hP, hI, hE⟩ := shaped_blocks hs.1 _ (bang_mem (l := f.blocks.2) hb)
  have h9 := List.all_eq_true.1 hs.2 _ (bang_mem (l := f.blocks.2) hb)
  unfold tblockB at h9
  simp only [Bool.and_eq_true, List.all_eq_true] at h9
  unfold blockB tblockB
  simp only [Bool.and_eq_true]
  refine ⟨⟨⟨all_yes fun k hk => ?_, all_yes fun k hk => ?_⟩, ?_⟩, ⟨all_yes fun k hk => ?_, all_yes fun k hk => ?_⟩, ?_⟩
  ·rw [hz.plen] at hk
   rw [phiB_same (nvS h) h.nb (hz.phi k hk)]; exact hP _ (bang_mem hk)
  ·rw [hz.ilen] at hk
   rw [instB_same (nvS h) (hz.ins k hk)]; exact (made_inst hT hb hk).1
  ·rw [hz.kind, hz.var, hz.to0, hz.to1]
   unfold termB at hE ⊢
   rw [nvS h, h.nb]; exact hE
  ·rw [hz.plen] at hk
   rw [tphiB_same (tyIS h) (hz.phi k hk)]; exact h9.1.1 _ (bang_mem hk)
  ·rw [hz.ilen] at hk
   rw [tinstB_same (tyIS h) (hz.ins k hk)]; exact (made_inst hT hb hk).2
  ·have h8 := h9.2
   unfold ttermB typedTermB at h8 ⊢
   rw [hz.kind, hz.var, hz.to0, hz.to1, tyS h]; exact h8
 exact ⟨all_yes fun b hb => (hB b hb).1, all_yes fun b hb => (hB b hb).2⟩
theorem made_shaped (hT : typedE f = 0) (h : ProgS (madeI f) f g) : shapedB g = decide (phT f f.nb + inT f f.nb + (placesL f).length ≤ 1024) := by
 have hs : shapedB f = true ∧ typedB f = true := by have := ty_both hT; rwa [Bool.and_eq_true] at this
 have hn : namesB f = true := by have := hs.1; unfold shapedB at this; rw [Bool.and_eq_true] at this; exact this.1
 unfold shapedB
 rw [made_names h, hn, (made_blocks hT h).1, made_sum hT h]
 simp
theorem made_typed (hT : typedE f = 0) (h : ProgS (madeI f) f g) (hs : shapedB g = true) : typedE g = 0 := by
 unfold typedE; rw [hs, (made_blocks hT h).2]; rfl
theorem typed_nb (hT : typedE f = 0) : 0 < f.nb := by
 have hs : shapedB f = true ∧ typedB f = true := by have := ty_both hT; rwa [Bool.and_eq_true] at this
 have h := hs.1
 unfold shapedB namesB at h
 simp only [Bool.and_eq_true, decide_eq_true_eq] at h
 omega
theorem made_guardedB (hT : typedE f = 0) (h : ProgS (madeI f) f g) (hs : shapedB g = true) : guardedB g = true := by
 have hTg := made_typed hT h hs
 have hG := made_guarded (made_of h) (typed_nb hT) fun b hb j hj hl => gdD_is (by simpa using hl)
 have hno : placesL g = [] := by
  unfold placesL
  rw [if_pos hTg]
  unfold lackTo
  rw [show lackB g g.nb 0 = [] by simp [lackB], List.append_nil, List.flatMap_eq_nil_iff]
  intro b hb
  have hb : b < f.nb := by rw [← h.nb]; exact List.mem_range.1 hb
  unfold lackB
  rw [List.map_eq_nil_iff, List.filter_eq_nil_iff]
  intro j hj
  rw [guardD_yes (hG b hb j (List.mem_range.1 hj))]; decide
 unfold guardedB
 rw [hno]
 simp [hTg]
theorem made_few (hf : fewB f = true) (h : ProgS (madeI f) f g) : FewP g := by
 have hF := few_p hf
 unfold fewB at hf
 split at hf
 ·cases hf
 obtain ⟨z, hz⟩ := Option.isSome_iff_exists.1 hf
 obtain ⟨n, _, hn⟩ := Option.bind_eq_some_iff.1 hz
 refine ⟨by rw [nvS h]; exact hF.nv, by rw [h.nb]; exact hF.nb, by rw [npS h]; exact hF.np, fun z hz => ?_⟩
 obtain ⟨b, hb, rfl⟩ : ∃ b, b < g.blocks.2.length ∧ g.blocks.2[b]! = z := by
  obtain ⟨j, hj, e⟩ := List.mem_iff_getElem.1 hz
  exact ⟨j, hj, by rw [getElem!_pos g.blocks.2 j hj]; exact e⟩
 have hb : b < f.nb := by rw [← h.nb]; exact hb
 have h4 := fewBl_all _ n (by rw [hn]; rfl) _ (bang_mem (l := f.blocks.2) hb)
 have hl : ((List.range f.blocks.2[b]!.insts.2.length).filter fun i => !guardD f b i).length ≤ f.blocks.2[b]!.insts.2.length := by
  refine Nat.le_trans (List.length_filter_le ..) ?_; simp
 rw [(h.blk b hb).plen, (h.blk b hb).ilen, made_len]
 omega
end
theorem lackTo_le (f : FuncM) (hfew : FewP f) : ∀ k, k ≤ f.nb → (lackTo f k 0).length ≤ 1000 * k := fun k => by
 induction k with
 | zero => intro _; simp [lackTo, lackB]
 | succ k ih =>
  intro hk
  have h1 := ih (by omega)
  have h2 := (hfew.block _ (bang_mem (l := f.blocks.2) (k := k) (show k < f.blocks.2.length from by show k < f.nb; omega))).2
  rw [lack_next, lackTo_len]
  have hl : ((List.range f.blocks.2[k]!.insts.2.length).filter fun i => !guardD f k i).length ≤ f.blocks.2[k]!.insts.2.length := by
   refine Nat.le_trans (List.length_filter_le ..) ?_; simp
  omega
theorem pl_ok {f : FuncM} (hT : typedE f = 0) (hfew : FewP f) : PlOK f (placesL f) := by
 refine ⟨fun b hb x hx => ?_, ?_, fun k hk => ?_⟩
 ·obtain ⟨j, hj, e⟩ := List.mem_iff_getElem.1 hx
  have := inst_ok hT hb hj
  rw [getElem!_pos _ j hj, e] at this
  exact this
 ·unfold placesL
  rw [if_pos hT]
  have := lackTo_le f hfew f.nb (Nat.le_refl _)
  have := hfew.nb
  omega
 ·have hm := bang_mem hk
  revert hm
  generalize (placesL f)[k]! = p
  intro hm
  unfold placesL at hm
  rw [if_pos hT] at hm
  unfold lackTo at hm
  rw [show lackB f f.nb 0 = [] by simp [lackB], List.append_nil] at hm
  obtain ⟨b, hb, hp⟩ := List.mem_flatMap.1 hm
  unfold lackB at hp
  obtain ⟨j, hj, rfl⟩ := List.mem_map.1 hp
  exact ⟨List.mem_range.1 hb, List.mem_range.1 (List.mem_filter.1 hj).1⟩
end Go.Proofs.YtjllbchfojonhaaGreatDoor
