/- The guard's field in memory: checks, what is good where; the checks of a program (plain). -/
import Derived.Test.YtjllbchfojonhaaGreatDoorGD
import Derived.Test.YtjllbchfojonhaaGreatDoorGC
import Derived.Test.YtjllbchfojonhaaGreatDoorGFlow
import Derived.Test.YtjllbchfojonhaaGreatDoorFlat
import Derived.Test.YtjllbchfojonhaaGreatDoorB3
namespace Go.Proofs.YtjllbchfojonhaaGreatDoor
open Go.RowKit
set_option linter.unusedVariables false
set_option linter.unusedSimpArgs false

structure CheckM where
  op : Int
  args : IntsM
instance : Inhabited CheckM := ⟨⟨0, (.slice none 0 0, [])⟩⟩
def CheckM.cells (c : CheckM) : List Value := [.int .i64 c.op, c.args.1]
def InstM.chk (x : InstM) : CheckM := ⟨x.op, x.args⟩
def sameB (c d : CheckM) : Bool := (c.op == d.op) && decide (c.args.2 = d.args.2)
theorem sameB_iff {c d : CheckM} : sameB c d = true ↔ c.op = d.op ∧ c.args.2 = d.args.2 := by unfold sameB; simp
theorem isB_iff {x : InstM} {op : Int} {l : List Int} : isB x op l = true ↔ x.op = op ∧ x.args.2 = l := by unfold isB; simp
theorem isB_same (x : InstM) (c : CheckM) : isB x c.op c.args.2 = sameB x.chk c := rfl
def bitV (l : List Bool) : List Value := l.map Value.bool
def cellsC (cs : List CheckM) : List Value := (cs.map CheckM.cells).flatten
theorem cellsC_len : ∀ cs : List CheckM, ∀ l ∈ cs.map CheckM.cells, l.length = 2 := fun cs l hl => by
  obtain ⟨c, _, rfl⟩ := List.mem_map.1 hl; rfl
structure FieldAt (w : World) (L : Nat) (f : FuncM) (cs : List CheckM) (th : List Bool) (I : List (List Bool)) (lv tv iv : Value) (vs : List Value) : Prop where
  box : Blk w L 89 #[f.vars.1, f.params.1, f.blocks.1, lv, tv, iv]
  fn : FuncAt w f
  l : w.ownsRow 0 49 2 lv cs.length (cellsC cs)
  la : ∀ c ∈ cs, IntsAt w c.args
  t : w.ownsRow 0 4 1 tv th.length (bitV th)
  i : w.ownsRow 0 39 1 iv I.length vs
  ir : ∀ b, b < I.length → w.ownsRow 0 4 1 vs[b]! cs.length (bitV I[b]!)
section
variable {w w' : World} {L : Nat} {f : FuncM} {cs : List CheckM} {th : List Bool} {I : List (List Bool)} {lv tv iv : Value} {vs : List Value}
theorem FieldAt.keep (h : FieldAt w L f cs th I lv tv iv vs) (k : Keeps w w' []) : FieldAt w' L f cs th I lv tv iv vs :=
  ⟨h.box.keep k (by simp), h.fn.keep k, own_keep h.l k (by simp), fun c hc => Row.keep (h.la c hc) k, own_keep h.t k (by simp), own_keep h.i k (by simp), fun b hb => own_keep (h.ir b hb) k (by simp)⟩
theorem FieldAt.row (h : FieldAt w L f cs th I lv tv iv vs) : Row w 2 lv (cs.map CheckM.cells) := row_flat (cellsC_len cs) (by omega) h.l
/-- one of the rows of `in' is put anew -/
theorem FieldAt.put {G b : Nat} {s : Value} {S : List Bool} (h : FieldAt w L f cs th I lv tv iv vs) (hG : iv.ownBlock = some G) (hb : b < I.length) (hs : w.ownsRow 0 4 1 s cs.length (bitV S))
    (hf : FuncAt (w.setCell ⟨G, b, none⟩ s) f) (hla : ∀ c ∈ cs, IntsAt (w.setCell ⟨G, b, none⟩ s) c.args) : FieldAt (w.setCell ⟨G, b, none⟩ s) L f cs th (I.set b S) lv tv iv (vs.set b s) := by
  have k : Keeps w (w.setCell ⟨G, b, none⟩ s) [G] := (Keeps.refl w _).setCell (.inl (by simp)) _
  have ap : ∀ {e : TypeId} {size n base : Nat} {v : Value} {xs : List Value}, w.ownsRow base e size v n xs → e ≠ 39 → ∀ k, v.ownBlock = some k → k ∉ [G] := fun hr he k hk hm => by
    simp at hm; subst hm
    exact own_apart hr h.i he hk hG
  have hlen : vs.length = I.length := by have := h.i.1; omega
  refine ⟨h.box.keep k (by simp; rintro rfl; exact own_ne h.i h.box (by decide) hG), hf, own_keep h.l k (ap h.l (by decide)), hla, own_keep h.t k (ap h.t (by decide)), ?_, fun c hc => ?_⟩
  · rw [List.length_set]; exact own_setC h.i hG b s
  · rw [List.length_set] at hc
    rw [rb_set hb]
    have hv : (vs.set b s)[c]! = if c = b then s else vs[c]! := by
      rw [getElem!_pos _ c (by simpa [hlen] using hc), List.getElem_set]
      by_cases e : b = c
      · rw [if_pos e, if_pos e.symm]
      · rw [if_neg e, if_neg (Ne.symm e), getElem!_pos vs c (by omega)]
    rw [hv]
    split
    · exact own_keep hs k (ap hs (by decide))
    · exact own_keep (h.ir c hc) k (ap (h.ir c hc) (by decide))
end
/-! the checks of a program, each once -/
def addC (out : List CheckM) (x : InstM) : List CheckM := if (chkB x.op && !(out.any (sameB x.chk))) = true then out ++ [x.chk] else out
def collectI (l : List InstM) : List CheckM := l.foldl addC []
def instsF (f : FuncM) : List InstM := f.blocks.2.flatMap fun b => b.insts.2
def collectF (f : FuncM) : List CheckM := collectI (instsF f)
theorem collect_snoc (l : List InstM) (x : InstM) : collectI (l ++ [x]) = addC (collectI l) x := by unfold collectI; rw [List.foldl_append]; rfl
theorem sameB_symm (c d : CheckM) : sameB c d = sameB d c := by
  rw [Bool.eq_iff_iff, sameB_iff, sameB_iff]; exact ⟨fun h => ⟨h.1.symm, h.2.symm⟩, fun h => ⟨h.1.symm, h.2.symm⟩⟩
theorem snoc_ind {α : Type} {P : List α → Prop} (h0 : P []) (h1 : ∀ l x, P l → P (l ++ [x])) : ∀ l, P l := fun l => by
  rw [← List.reverse_reverse l]
  induction l.reverse with
  | nil => exact h0
  | cons x l ih => rw [List.reverse_cons]; exact h1 _ _ ih
theorem collect_mem : ∀ l : List InstM, ∀ x ∈ l, chkB x.op = true → (collectI l).any (sameB x.chk) = true :=
  snoc_ind (fun x hx => by cases hx) fun l y ih x hx hc => by
    rw [collect_snoc]
    have up : ∀ c, (collectI l).any (sameB c) = true → (addC (collectI l) y).any (sameB c) = true := fun c h => by
      unfold addC; split
      · rw [List.any_append, h, Bool.true_or]
      · exact h
    rcases List.mem_append.1 hx with h | h
    · exact up _ (ih x h hc)
    · rw [List.mem_singleton.1 h] at hc ⊢
      cases ha : (collectI l).any (sameB y.chk) with
      | true => exact up _ ha
      | false =>
        unfold addC
        rw [hc, ha, Bool.true_and, Bool.not_false, if_pos rfl, List.any_append]
        simp [sameB]
theorem collect_of : ∀ l : List InstM, ∀ c ∈ collectI l, chkB c.op = true ∧ ∃ x ∈ l, c = x.chk :=
  snoc_ind (fun c hc => by cases hc) fun l y ih c hc => by
    rw [collect_snoc] at hc
    unfold addC at hc
    split at hc
    · rename_i h
      rcases List.mem_append.1 hc with h1 | h1
      · obtain ⟨h2, x, h3, h4⟩ := ih c h1
        exact ⟨h2, x, List.mem_append_left _ h3, h4⟩
      · rw [List.mem_singleton.1 h1]
        rw [Bool.and_eq_true] at h
        exact ⟨h.1, y, by simp, rfl⟩
    · obtain ⟨h2, x, h3, h4⟩ := ih c hc
      exact ⟨h2, x, List.mem_append_left _ h3, h4⟩
theorem collect_once : ∀ l : List InstM, (collectI l).Pairwise fun c d => sameB c d = false :=
  snoc_ind (by unfold collectI; simp) fun l y ih => by
    rw [collect_snoc]
    unfold addC
    split
    · rename_i h
      rw [List.pairwise_append]
      refine ⟨ih, by simp, fun c hc d hd => ?_⟩
      rw [List.mem_singleton.1 hd]
      rw [Bool.and_eq_true, Bool.not_eq_true'] at h
      rw [sameB_symm]
      exact Bool.eq_false_iff.2 fun e => by
        have := List.any_eq_true.2 ⟨c, hc, e⟩
        rw [h.2] at this; cases this
    · exact ih
theorem collect_uniq {l : List InstM} {i j : Nat} (hi : i < (collectI l).length) (hj : j < (collectI l).length) {c : CheckM} (h1 : sameB c (collectI l)[i]! = true) (h2 : sameB c (collectI l)[j]! = true) : i = j := by
  have hp := List.pairwise_iff_getElem.1 (collect_once l)
  have key : ∀ i j (hi : i < (collectI l).length) (hj : j < (collectI l).length), i < j → sameB c (collectI l)[i]! = true → sameB c (collectI l)[j]! = true → False := fun i j hi hj hij h1 h2 => by
    have := hp i j hi hj hij
    rw [getElem!_pos _ i hi] at h1
    rw [getElem!_pos _ j hj] at h2
    rw [sameB_iff] at h1 h2
    rw [Bool.eq_false_iff] at this
    exact this (sameB_iff.2 ⟨h1.1.symm.trans h2.1, h1.2.symm.trans h2.2⟩)
  rcases Nat.lt_trichotomy i j with h | h | h
  · exact (key i j hi hj h h1 h2).elim
  · exact h
  · exact (key j i hj hi h h2 h1).elim
/-! through is monotone -/
theorem phiG_mono (l : List Int) (p : PhiM) : Mono fun b => phiG l b p := fun h => by
  simp only [phiG] at h ⊢; split at h
  · cases h
  · cases h
theorem instG_mono (op : Int) (l : List Int) (x : InstM) : Mono fun b => instG op l b x := fun h => by
  simp only [instG] at h ⊢; split
  · rename_i h1; rw [if_pos h1] at h; cases h
  · rename_i h1; rw [if_neg h1] at h; simp at h ⊢
theorem fold_mono {α : Type} (g : Bool → α → Bool) (hg : ∀ x, Mono fun b => g b x) : ∀ l : List α, Mono fun b => l.foldl g b
  | [] => fun h => rfl
  | x :: l => fun h => by
    simp only [List.foldl_cons] at h ⊢
    exact mono_le (fold_mono g hg l) (fun h2 => hg x h2) h
theorem through_mono (y : BlockM) (op : Int) (l : List Int) (pl : Nat) : Mono (throughM y op l pl) := fun h => by
  unfold throughM at h ⊢
  exact mono_le (fold_mono (instG op l) (instG_mono op l) _) (fun h2 => fold_mono (phiG l) (phiG_mono l) _ h2) h
end Go.Proofs.YtjllbchfojonhaaGreatDoor
