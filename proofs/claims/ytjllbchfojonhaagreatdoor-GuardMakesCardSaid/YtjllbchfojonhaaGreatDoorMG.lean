/- A program with the checks that it lacks is guarded: the plain law. -/
import Derived.Test.YtjllbchfojonhaaGreatDoorHX
import Derived.Test.YtjllbchfojonhaaGreatDoorMS
namespace Go.Proofs.YtjllbchfojonhaaGreatDoor
set_option linter.unusedVariables false
set_option linter.unusedSimpArgs false
/-! the made program is guarded: the plain law -/
/-- the check that an instruction wants -/
def needI (x : InstM) : InstM := ⟨(needC x.op.toNat).1, -1, (.slice none 0 0, needA x x.op.toNat), 0⟩
/-- one place's instructions, the check that it lacks ahead -/
def mkO (lk : Nat → Bool) (l : List InstM) (i : Nat) : List InstM := if lk i = true then [needI l[i]!, l[i]!] else [l[i]!]
def mkL (lk : Nat → Bool) (l : List InstM) (j : Nat) : List InstM := (List.range j).flatMap (mkO lk l)
theorem mkL_succ (lk : Nat → Bool) (l : List InstM) (j : Nat) : mkL lk l (j + 1) = mkL lk l j ++ mkO lk l j := by
 unfold mkL; rw [List.range_succ, List.flatMap_append]; simp
theorem mkL_len_le (lk : Nat → Bool) (l : List InstM) : ∀ {i j : Nat}, i ≤ j → (mkL lk l i).length ≤ (mkL lk l j).length := fun {i j} h => by
 induction j with
 | zero => rw [show i = 0 by omega]; exact Nat.le_refl _
 | succ j ih =>
  by_cases e : i = j + 1
  ·rw [e]; exact Nat.le_refl _
  ·rw [mkL_succ, List.length_append]; have := ih (by omega); omega
theorem mkL_pre (lk : Nat → Bool) (l : List InstM) : ∀ {i j : Nat}, i ≤ j → ∃ r, mkL lk l j = mkL lk l i ++ r := fun {i j} h => by
 induction j with
 | zero => exact ⟨[], by rw [show i = 0 by omega]; simp⟩
 | succ j ih =>
  by_cases e : i = j + 1
  ·exact ⟨[], by rw [e]; simp⟩
  ·obtain ⟨r, hr⟩ := ih (by omega)
   exact ⟨r ++ mkO lk l j, by rw [mkL_succ, hr, List.append_assoc]⟩
/-- each place of the made list is an old instruction's, or a check's ahead of one that lacks it -/
theorem mkL_at (lk : Nat → Bool) (l : List InstM) : ∀ (n k : Nat), k < (mkL lk l n).length → ∃ j, j < n ∧
  ((lk j = false ∧ k = (mkL lk l j).length ∧ (mkL lk l n)[k]! = l[j]!) ∨ (lk j = true ∧ k = (mkL lk l j).length ∧ (mkL lk l n)[k]! = needI l[j]!) ∨ (lk j = true ∧ k = (mkL lk l j).length + 1 ∧ (mkL lk l n)[k]! = l[j]!)) := fun n => by
 induction n with
 | zero => intro k hk; exact absurd hk (by simp [mkL])
 | succ n ih =>
  intro k hk
  by_cases h : k < (mkL lk l n).length
  ·obtain ⟨j, hj, hc⟩ := ih k h
   have e : (mkL lk l (n + 1))[k]! = (mkL lk l n)[k]! := by
    rw [mkL_succ, getElem!_pos _ k (by rw [List.length_append]; omega), getElem!_pos _ k h, List.getElem_append_left h]
   exact ⟨j, by omega, by rw [e]; exact hc⟩
  ·refine ⟨n, Nat.lt_succ_self _, ?_⟩
   rw [mkL_succ, List.length_append] at hk
   have e : (mkL lk l (n + 1))[k]! = (mkO lk l n)[k - (mkL lk l n).length]! := by
    rw [mkL_succ, getElem!_pos _ k (by rw [List.length_append]; omega), List.getElem_append_right (by omega), getElem!_pos (mkO lk l n) _ (by omega)]
   rw [e]
   cases hl : lk n with
   | false =>
    have : mkO lk l n = [l[n]!] := by unfold mkO; rw [if_neg (by rw [hl]; decide)]
    rw [this] at hk ⊢
    simp at hk
    have hk0 : k = (mkL lk l n).length := by omega
    exact .inl ⟨rfl, hk0, by rw [hk0, Nat.sub_self]; rfl⟩
   | true =>
    have : mkO lk l n = [needI l[n]!, l[n]!] := by unfold mkO; rw [if_pos hl]
    rw [this] at hk ⊢
    simp at hk
    by_cases hk0 : k = (mkL lk l n).length
    ·exact .inr (.inl ⟨rfl, hk0, by rw [hk0, Nat.sub_self]; rfl⟩)
    ·have hk1 : k = (mkL lk l n).length + 1 := by omega
     exact .inr (.inr ⟨rfl, hk1, by rw [hk1, Nat.add_sub_cancel_left]; rfl⟩)
theorem instG_same {x y : InstM} (h : SameI x y) (op : Int) (l : List Int) (g : Bool) : instG op l g x = instG op l g y := by
 unfold instG isB; rw [h.1, h.2.1, h.2.2.1]
theorem instG_need {x : InstM} (op : Int) (l : List Int) (g : Bool) (h : g = true) : instG op l g (needI x) = true := by
 unfold instG needI; simp [h]
theorem instG_mono1 {x : InstM} {op : Int} {l : List Int} {g g' : Bool} (hg : g = true → g' = true) (h : instG op l g x = true) : instG op l g' x = true := by
 unfold instG at h ⊢
 split at h
 ·cases h
 ·rename_i hc
  rw [if_neg hc]
  rw [Bool.or_eq_true] at h ⊢
  exact h.imp id hg
theorem mk_mono (lk : Nat → Bool) (l : List InstM) (op : Int) (v : List Int) {g g' : Bool} (hg : g = true → g' = true) : ∀ j, j ≤ l.length → (l.take j).foldl (instG op v) g = true → (mkL lk l j).foldl (instG op v) g' = true := fun j => by
 induction j with
 | zero => intro _ h; exact hg h
 | succ j ih =>
  intro hj h
  rw [fold_take _ _ _ _ (by omega)] at h
  rw [mkL_succ, List.foldl_append]
  have h0 : (l.take j).foldl (instG op v) g = true → (mkL lk l j).foldl (instG op v) g' = true := ih (by omega)
  unfold mkO
  split
  ·show instG op v (instG op v _ (needI l[j]!)) l[j]! = true
   exact instG_mono1 (fun h2 => instG_need _ _ _ (h0 h2)) h
  ·show instG op v _ l[j]! = true
   exact instG_mono1 h0 h
theorem fold_same {op : Int} {v : List Int} : ∀ {xs ys : List InstM}, xs.length = ys.length → (∀ k, k < xs.length → SameI xs[k]! ys[k]!) → ∀ g, xs.foldl (instG op v) g = ys.foldl (instG op v) g
 | [], [], _, _, _ => rfl
 | x :: xs, y :: ys, hl, h, g => by
  rw [List.foldl_cons, List.foldl_cons, instG_same (x := x) (y := y) (h 0 (by simp))]
  exact fold_same (by simpa using hl) (fun k hk => by have := h (k + 1) (by simpa using hk); simpa using this) _
 | [], y :: ys, hl, _, _ => by simp at hl
 | x :: xs, [], hl, _, _ => by simp at hl
/-- a block of the made program -/
structure MadeB (lk : Nat → Bool) (y z : BlockM) : Prop where
 phi : y.phis.2.map PhiM.dst = z.phis.2.map PhiM.dst
 kind : z.kind = y.kind
 to0 : z.to0 = y.to0
 to1 : z.to1 = y.to1
 len : z.insts.2.length = (mkL lk y.insts.2 y.insts.2.length).length
 ins : ∀ k, k < z.insts.2.length → SameI z.insts.2[k]! (mkL lk y.insts.2 y.insts.2.length)[k]!
structure MadeP (lk : Nat → Nat → Bool) (f g : FuncM) : Prop where
 nb : g.nb = f.nb
 blk : ∀ b, b < f.nb → MadeB (lk b) f.blocks.2[b]! g.blocks.2[b]!
theorem phis_same {l : List Int} : ∀ {ps qs : List PhiM}, ps.map PhiM.dst = qs.map PhiM.dst → ∀ g, ps.foldl (phiG l) g = qs.foldl (phiG l) g
 | [], [], _, _ => rfl
 | p :: ps, q :: qs, h, g => by
  simp only [List.map_cons, List.cons.injEq] at h
  rw [List.foldl_cons, List.foldl_cons]
  have : phiG l g p = phiG l g q := by unfold phiG; rw [h.1]
  rw [this]; exact phis_same h.2 _
 | [], q :: qs, h, _ => by simp at h
 | p :: ps, [], h, _ => by simp at h
theorem fold_phi_mono {l : List Int} : ∀ {ps : List PhiM} {g g' : Bool}, (g = true → g' = true) → ps.foldl (phiG l) g = true → ps.foldl (phiG l) g' = true
 | [], _, _, h, h1 => h h1
 | p :: ps, g, g', h, h1 => by
  rw [List.foldl_cons] at h1 ⊢
  refine fold_phi_mono (fun h2 => ?_) h1
  unfold phiG at h2 ⊢
  split
  ·rename_i hc; rw [if_pos hc] at h2; cases h2
  ·rename_i hc; rw [if_neg hc] at h2; exact h h2
theorem made_through {lk : Nat → Bool} {y z : BlockM} (h : MadeB lk y z) (op : Int) (v : List Int) {g g' : Bool} (hg : g = true → g' = true) {j : Nat} (hj : j ≤ y.insts.2.length) (ht : throughM y op v j g = true) : throughM z op v (mkL lk y.insts.2 j).length g' = true := by
 unfold throughM at ht ⊢
 obtain ⟨r, hr⟩ := mkL_pre lk y.insts.2 hj
 have hle : (mkL lk y.insts.2 j).length ≤ z.insts.2.length := by rw [h.len]; exact mkL_len_le lk _ hj
 rw [fold_same (ys := mkL lk y.insts.2 j) (by rw [List.length_take]; omega) (fun k hk => by
  rw [List.length_take] at hk
  have := h.ins k (by omega)
  rw [getElem!_pos _ k (by rw [List.length_take]; omega), List.getElem_take]
  rw [getElem!_pos z.insts.2 k (by omega), hr, getElem!_pos _ k (by rw [List.length_append]; omega), List.getElem_append_left (by omega)] at this
  rw [getElem!_pos (mkL lk y.insts.2 j) k (by omega)]
  exact this)]
 exact mk_mono lk _ op v (fun h2 => by rw [← phis_same h.phi]; exact fold_phi_mono hg h2) j hj ht
theorem made_leads {lk : Nat → Bool} {y z : BlockM} (h : MadeB lk y z) (c : Int) : leadsM z c = leadsM y c := by
 unfold leadsM; rw [h.kind, h.to0, h.to1]
theorem made_succ {lk : Nat → Nat → Bool} {f g : FuncM} (h : MadeP lk f g) {a : Nat} (ha : a < f.nb) : succF g a = succF f a := by
 unfold succF; rw [h.nb]
 refine List.filter_congr fun c _ => ?_
 rw [made_leads (h.blk a ha)]
theorem rwayM_lt {f : FuncM} (hp : 0 < f.nb) {b : Nat} (h : RWay (succF f) b) : b < f.nb := by
 cases h with
 | start => exact hp
 | step _ hs => exact (succF_mem.1 hs).1
theorem made_reach {lk : Nat → Nat → Bool} {f g : FuncM} (h : MadeP lk f g) (hp : 0 < f.nb) {b : Nat} (hr : RWay (succF g) b) : RWay (succF f) b := by
 induction hr with
 | start => exact .start
 | @step a c ha hs ih =>
  rw [made_succ h (rwayM_lt hp ih)] at hs
  exact .step ih hs
theorem made_way {lk : Nat → Nat → Bool} {f g : FuncM} (h : MadeP lk f g) (hp : 0 < f.nb) {op : Int} {v : List Int} {b : Nat} {m : Bool} (hw : GWay (succF g) (tF g op v) b m) : ∃ m0, GWay (succF f) (tF f op v) b m0 ∧ (m0 = true → m = true) := by
 induction hw with
 | start => exact ⟨false, .start, fun h => h⟩
 | @step a c m ha hs ih =>
  obtain ⟨m0, h0, h1⟩ := ih
  have hlt := rwayM_lt hp (gway_reach h0)
  rw [made_succ h hlt] at hs
  refine ⟨tF f op v a m0, .step h0 hs, fun h2 => ?_⟩
  unfold tF at h2 ⊢
  have := made_through (h.blk a hlt) op v h1 (Nat.le_refl _) h2
  rw [(h.blk a hlt).len]; exact this
theorem need_notraw (k : Nat) : inL rawL (needC k).1 = false := by
 unfold needC
 split
 ·rfl
 ·split
  ·rfl
  ·split
   ·rfl
   ·split <;> rfl
theorem guardP_same {g : FuncM} {b k : Nat} {x : InstM} (h : SameI g.blocks.2[b]!.insts.2[k]! x) (hp : inL rawL x.op = true → RWay (succF g) b → GoodP g (needC x.op.toNat).1 (needA x x.op.toNat) b k) : GuardP g b k := by
 unfold GuardP
 rw [h.1]
 cases hr : inL rawL x.op with
 | false => exact .inl rfl
 | true =>
  by_cases hw : RWay (succF g) b
  ·refine .inr (.inr ?_)
   have := hp hr hw
   unfold needA at this ⊢
   rw [h.2.2.1]; exact this
  ·exact .inr (.inl hw)
/-- the made program is guarded everywhere -/
theorem made_guarded {lk : Nat → Nat → Bool} {f g : FuncM} (h : MadeP lk f g) (hp : 0 < f.nb) (hno : ∀ b, b < f.nb → ∀ j, j < f.blocks.2[b]!.insts.2.length → lk b j = false → GuardP f b j) :
  ∀ b, b < f.nb → ∀ k, k < g.blocks.2[b]!.insts.2.length → GuardP g b k := by
 intro b hb k hk
 have hB := h.blk b hb
 have hs := hB.ins k hk
 rw [hB.len] at hk
 obtain ⟨j, hj, hc | hc | hc⟩ := mkL_at (lk b) f.blocks.2[b]!.insts.2 _ k hk
 ·obtain ⟨hl, rfl, e⟩ := hc
  rw [e] at hs
  refine guardP_same hs fun hr hw => ?_
  rcases hno b hb j hj hl with q | q | q
  ·rw [hr] at q; cases q
  ·exact absurd (made_reach h hp hw) q
  ·intro m hm
   obtain ⟨m0, h0, h1⟩ := made_way h hp hm
   exact made_through hB _ _ h1 (Nat.le_of_lt hj) (q m0 h0)
 ·obtain ⟨hl, rfl, e⟩ := hc
  rw [e] at hs
  exact guardP_same hs fun hr _ => absurd hr (by show ¬ inL rawL (needC _).1 = true; rw [need_notraw]; decide)
 ·obtain ⟨hl, rfl, e⟩ := hc
  rw [e] at hs
  refine guardP_same hs fun hr hw => ?_
  intro m hm
  unfold throughM
  have hlt : (mkL (lk b) f.blocks.2[b]!.insts.2 j).length < g.blocks.2[b]!.insts.2.length := by rw [hB.len]; omega
  rw [fold_take _ _ _ _ hlt]
  have h2 := hB.ins _ hlt
  have e2 : (mkL (lk b) f.blocks.2[b]!.insts.2 f.blocks.2[b]!.insts.2.length)[(mkL (lk b) f.blocks.2[b]!.insts.2 j).length]! = needI f.blocks.2[b]!.insts.2[j]! := by
   obtain ⟨r, hr2⟩ := mkL_pre (lk b) f.blocks.2[b]!.insts.2 (show j + 1 ≤ f.blocks.2[b]!.insts.2.length by omega)
   rw [hr2, mkL_succ]
   unfold mkO
   rw [if_pos hl, getElem!_pos _ _ (by simp), List.getElem_append_left (by simp), List.getElem_append_right (Nat.le_refl _)]
   simp
  rw [e2] at h2
  rw [instG_same h2]
  unfold instG needI isB
  simp
end Go.Proofs.YtjllbchfojonhaaGreatDoor
