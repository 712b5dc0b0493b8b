/- Which blocks are reached (graph.reach), the blocks that lead to each (graph.preds); the walks. -/
import Derived.Test.YtjllbchfojonhaaGreatDoorGQ
import Derived.Test.YtjllbchfojonhaaGreatDoorGS
import Derived.Deep.CutBlock
import Derived.Deep.Cut
import Derived.Maps.AppendAt
namespace Go.Proofs.YtjllbchfojonhaaGreatDoor
open Go.RowKit Go.Shelf Go.Lib
set_option linter.unusedVariables false
set_option linter.unusedSimpArgs false
theorem bitsR_own {w : World} {g base n : Nat} {l : List Bool} (h : Blk w g 4 (bitsR l)) (hb : base ≤ g) (hn : l.length = n) (hm : n ≤ maxLen) : w.ownsRow base 4 1 (.slice (some ⟨g, 0, none⟩) n n) n (bitV l) :=
 ⟨by rw [bitV_len, hn, Nat.mul_one], .inr ⟨g, n, bitsR l, rfl, hb, h, Nat.le_refl _, hm, by simp [bitsR, hn], by rw [Nat.mul_one, ← hn]; show List.take l.length (l.map Value.bool) = l.map Value.bool; exact List.take_of_length_le (by simp)⟩⟩
def markTo (nb : Nat) (ord : List Nat) (j : Nat) : List Bool := (List.range nb).map fun b => (ord.take j).contains b
theorem markTo_len (nb : Nat) (ord : List Nat) (j : Nat) : (markTo nb ord j).length = nb := by simp [markTo]
theorem markTo_zero (nb : Nat) (ord : List Nat) : markTo nb ord 0 = List.replicate nb false := by
 unfold markTo; rw [List.take_zero]
 exact List.ext_getElem (by simp) fun i h1 h2 => by simp
theorem markTo_step {nb : Nat} {ord : List Nat} {j : Nat} (hj : j < ord.length) (hn : ord[j]! < nb) : markTo nb ord (j + 1) = (markTo nb ord j).set ord[j]! true := by
 unfold markTo
 rw [set_range _ _ hn]
 refine range_eq fun b hb => ?_
 rw [List.take_succ_eq_append_getElem hj, getElem!_pos ord j hj, Bool.eq_iff_iff]
 simp only [List.contains_iff_mem, List.mem_append, List.mem_singleton]
 by_cases e : b = ord[j]
 ·simp [e]
 ·simp [e]
structure ReachOK (f : FuncM) (th : List Bool) : Prop where
 len : th.length = f.nb
 mem : ∀ b, b < f.nb → (th[b]! = true ↔ RWay (succF f) b)
theorem reach_ok {f : FuncM} {ord : List Nat} (h : OrdOK f ord) : ReachOK f (markTo f.nb ord ord.length) :=
 ⟨markTo_len _ _ _, fun b hb => by unfold markTo; rw [range_at _ hb, List.take_length, ← h.mem]; simp⟩
theorem natV_at {l : List Nat} {j : Nat} (hj : j < l.length) : (natV l)[j]? = some (.int .i64 (l[j]! : Nat)) := by
 unfold natV; rw [List.getElem?_map, List.getElem?_eq_getElem hj, getElem!_pos l j hj]; rfl
set_option maxRecDepth 100000 in
set_option maxHeartbeats 200000000 in
theorem reach_any (f : FuncM) (w : World) (hf : FuncAt w f) (hE : EndsOK f) : Calls Tryz.prog 101 #[f.val] w fun e w' => (∃ v, e = .returned v ∧ ∃ th, w'.ownsRow w.heap.size 4 1 v f.nb (bitV th) ∧ ReachOK f th) ∧ Keeps w w' [] := by
 have hn := hE.nb
 have hmk := make_bools f.nb hn
 have HE := kept hE
 have CO := kept (fun W (h : FuncAt W f) => order_any f W h hE)
 obtain ⟨a0, c0, a1, c1, a2, c2, e0, e1, e2, hval, h1, HF, HC0, HC1, HC2, HNV, HNP, HNB⟩ := fopen hf
 rw [hval] at CO ⊢
 clear hval h1 e0 e1 e2 hf HC0 HC1 HC2 hE
 obtain ⟨HK, Bl⟩ := fbox w 26 #[.slice a0 f.nv c0, .slice a1 f.np c1, .slice a2 f.nb c2]
 obtain ⟨l0, l1, l2⟩ := Bl.out.c3
 simp at l0 l1 l2
 go_enter Tryz.func101, Tryz.ntmps101
 go_upto_region 1 with (fail)
 have hszw : w.heap.size ≤ (w.alloc (.cells #[.slice a0 f.nv c0, .slice a1 f.np c1, .slice a2 f.nb c2] 26)).heap.size := by show _ ≤ (Array.push _ _).size; simp [Array.size_push]
 clear l0 l1 l2
 generalize (w.alloc (.cells #[.slice a0 f.nv c0, .slice a1 f.np c1, .slice a2 f.nb c2] 26)) = W0 at *
 have Bl_W0 := Bl
 have TW0 := HK
 clear HK
 have HK := kept (Keeps.refl W0 [])
 obtain ⟨l0, l1, l2⟩ := Bl.out.c3
 simp at l0 l1 l2
 have HSW := kept hszw
 clear hszw
 go_upto_region 2 with (fail)
 have k3 : Keeps W0 (W0.alloc (.cells (bitsR (List.replicate f.nb false)) 4)) [] := (Keeps.refl _ []).alloc _
 have bb := Blk.new W0 4 (bitsR (List.replicate f.nb false))
 clear l0 l1 l2
 replace Bl := kept (Bl.out.keep k3 (by simp))
 replace HK := kept (HK.out.and_then k3)
 obtain ⟨l0, l1, l2⟩ := Bl.out.c3
 simp at l0 l1 l2
 clear k3
 have BB := kept bb
 clear bb
 generalize (W0.alloc (.cells (bitsR (List.replicate f.nb false)) 4)) = W1 at *
 obtain ⟨gs, hgs⟩ : ∃ gs, gs = W0.heap.size := ⟨_, rfl⟩
 rw [← hgs] at BB
 simp only [← hgs]
 have HGS := kept (show W0.heap.size ≤ gs by omega)
 clear hgs hmk
 go_wp2_with (first | (go_at_call 103; refine (CO.out _ (HF.out.keep (TW0.out.and_then HK.out))).mono ?_; rintro e w3 ⟨⟨ov, ord, rfl, hown, hord⟩, k3⟩; obtain ⟨oa, oc, rfl, -, -⟩ := own_form hown; have OO := kept hown; have HO := kept hord; have BB2 := kept (BB.out.keep k3 (by simp)); have HGL := kept BB.out.lt; replace BB := BB2; clear BB2 hown hord; clear l0 l1 l2; replace Bl := kept (Bl.out.keep k3 (by simp)); replace HK := kept (HK.out.and_then k3); obtain ⟨l0, l1, l2⟩ := Bl.out.c3; simp at l0 l1 l2; clear k3))
 have hoz : (ord.length : Int) ≤ 9223372036854775807 := by obtain ⟨h1, h2⟩ := (show ord.length ≤ oc ∧ oc ≤ maxLen from by rcases OO.out.2 with h | ⟨g, cap, cur, h, -, -, h4, h5, -⟩; (obtain ⟨h, h2⟩ := h; simp only [Value.slice.injEq] at h; omega); (simp only [Value.slice.injEq] at h; omega)); unfold maxLen at h2; omega
 go_loopw [13] (fun i' wx => ∃ j : Nat, j ≤ ord.length ∧ i' = .int .i64 j ∧ Blk wx gs 4 (bitsR (markTo f.nb ord j)) ∧ wx.ownsRow W1.heap.size 3 1 (.slice oa ord.length oc) ord.length (natV ord) ∧ Keeps W0 wx []) (fun i' _ => ord.length - (intOf i').toNat)
 case atStart => exact ⟨0, Nat.zero_le _, rfl, by rw [markTo_zero]; exact BB.out, OO.out, HK.out⟩
 case round =>
  obtain ⟨j, hj, rfl, hB, hO, hr⟩ := hrel
  clear BB OO
  clear l0 l1 l2
  clear Bl HK
  have HK := kept hr
  have Bl := kept (Bl_W0.out.keep hr (by simp))
  clear hr
  obtain ⟨l0, l1, l2⟩ := Bl.out.c3
  simp at l0 l1 l2
  have BB := kept hB
  have OO := kept hO
  clear hB hO
  by_cases hlj : j < ord.length
  ·have hljz : (j : Int) < (ord.length : Int) := by omega
   obtain ⟨g, cap, e1, hg, hgo, -, -, -, hc, -⟩ := own_cellC OO.out (by omega)
   simp only [Value.slice.injEq] at e1
   obtain ⟨rfl, -, rfl⟩ := e1
   have e0 := (hc j (by omega)).trans (natV_at hlj)
   have hdn : ord[j]! < f.nb := rway_nb HE.out ((HO.out.mem _).1 (bang_mem hlj))
   have HMS := kept (markTo_step hlj hdn)
   have HMD := kept (show ord[j]! = ord[j]! from rfl)
   generalize ord[j]! = d at e0 hdn HMS
   have hdz : (d : Int) < (f.nb : Int) := by omega
   have s0 : wr.cell? ⟨gs, d, none⟩ = some (.bool (markTo f.nb ord j)[d]!) := by rw [BB.out.cell d, bitsR_at (by rw [markTo_len]; exact hdn)]
   have s1 := BB.out.frozen d
   clear hc HMD
   have HGO := kept hgo
   clear hgo
   go_wp2
   go_roundw
   case rel => exact ⟨j + 1, by omega, by go_num, by rw [HMS.out, ← bitsR_set]; exact BB.out.set_ d _, own_keep OO.out ((Keeps.refl wr [gs]).setCell (.inl (by simp)) _) (fun k hk hm => by simp at hm; subst hm; exact own_ne OO.out BB.out (by decide) hk), HK.out.setCell (.inr HGS.out) _⟩
   case measure => simp [intOf]; omega
  ·have hljz : ¬ (j : Int) < (ord.length : Int) := by omega
   obtain rfl : j = ord.length := by omega
   go_wp2
   go_ret
   exact ⟨⟨_, rfl, _, bitsR_own BB.out (Nat.le_trans HSW.out HGS.out) (markTo_len _ _ _) (by unfold maxLen; omega), reach_ok HO.out⟩, (TW0.out.and_then HK.out)⟩
theorem made_slices (q : Nat) : madeCells (Value.slice none 0 0).cells q = Array.replicate q (Value.slice none 0 0) := by
 apply Array.ext
 ·rw [size_madeCells]; simp
 ·intro i h1 h2
  unfold madeCells
  simp [Value.cells, Nat.mod_one]
theorem info23z : (Tryz.prog.info? 23).map (fun i => (i.zero, i.size, i.bytes)) = some (some (.slice none 0 0), 1, 24) := by kernel_rfl
theorem make_slices (q : Nat) (hq : q ≤ 1000) (w : World) : (Instr.makeSlice 119 (.int .i64 (q : Int)) (.int .i64 (q : Int))).run Tryz.prog w = .ok (.slice (some ⟨w.heap.size, 0, none⟩) q q) (w.alloc (.cells (Array.replicate q (Value.slice none 0 0)) 23)) := by
 obtain ⟨i, hi, he⟩ := Option.map_eq_some_iff.1 info23z
 simp only [Prod.mk.injEq] at he
 obtain ⟨hz, hsz, hby⟩ := he
 have hr := Go.run_makeSlice (P := Tryz.prog) (w := w) 119 23 i (.slice none 0 0) (by kernel_rfl) hi hz .i64 .i64 (q : Int) (q : Int) (by omega) (Int.le_refl _) (by rw [hsz]; omega) (by rw [hby]; omega) (by omega)
 rw [hsz, Int.toNat_natCast, Nat.mul_one, made_slices] at hr
 exact hr
theorem blk_kept {W W3 : World} {eb : Nat} {v2 : Value} {o : Obj} (hg : (W.alloc o).grownBy W3 v2.ownBlock) (hne : v2.ownBlock ≠ some eb) (hlt : eb < W.heap.size) : W3.heap[eb]? = W.heap[eb]? ∧ W.heap.size ≤ W3.heap.size := by
 have k : Keeps W W3 v2.ownBlock.toList := ((Keeps.refl W _).alloc o).grown hg (fun k hk => .inl (by rw [hk]; simp))
 exact ⟨k.block eb hlt (fun hm => by rw [Option.mem_toList] at hm; exact hne hm), k.size⟩
theorem cellB_eq {w w' : World} {b o : Nat} (h : w'.heap[b]? = w.heap[b]?) : w'.cell? ⟨b, o, none⟩ = w.cell? ⟨b, o, none⟩ := by
 unfold World.cell?
 simp only [h]
structure EndRow (w : World) (G nb eb eo : Nat) (EM : List Int) (vs : List Value) : Prop where
 cell : ∀ j, j < EM.length → w.cell? ⟨eb, eo + j, none⟩ = some (.int .i64 EM[j]!)
 lt : 0 < EM.length → eb < w.heap.size
 ne : 0 < EM.length → G ≠ eb
 ap : 0 < EM.length → ∀ b, b < nb → vs[b]!.ownBlock ≠ some eb
structure PrRow (w : World) (base G nb : Nat) (vs : List Value) (P : List (List Nat)) : Prop where
 lv : vs.length = nb
 lp : P.length = nb
 g : Blk w G 23 vs.toArray
 r : ∀ b, b < nb → w.ownsRow base 3 1 vs[b]! P[b]!.length (natV P[b]!)
 ap : ∀ b c, b < nb → c < nb → b ≠ c → ∀ k, vs[b]!.ownBlock = some k → vs[c]!.ownBlock ≠ some k
theorem ln_set {α : Type} [Inhabited α] {l : List α} {i j : Nat} {b : α} (hi : i < l.length) : (l.set i b)[j]! = if j = i then b else l[j]! := by
 by_cases hj : j < l.length
 ·rw [getElem!_pos _ j (by simpa using hj), getElem!_pos l j hj, List.getElem_set]
  by_cases e : i = j
  ·rw [if_pos e, if_pos e.symm]
  ·rw [if_neg e, if_neg (Ne.symm e)]
 ·rw [getElem!_neg _ j (by simpa using hj), getElem!_neg l j hj, if_neg (by omega)]
section
variable {w w' : World} {base G nb : Nat} {vs : List Value} {P : List (List Nat)}
theorem PrRow.keep (h : PrRow w base G nb vs P) (k : Keeps w w' []) : PrRow w' base G nb vs P :=
 ⟨h.lv, h.lp, h.g.keep k (by simp), fun b hb => own_keep (h.r b hb) k (by simp), h.ap⟩
theorem PrRow.cell (h : PrRow w base G nb vs P) {b : Nat} (hb : b < nb) : w.cell? ⟨G, b, none⟩ = some vs[b]! := by
 rw [h.g.cell b, List.getElem?_toArray, List.getElem?_eq_getElem (by rw [h.lv]; exact hb), getElem!_pos vs b (by rw [h.lv]; exact hb)]
theorem PrRow.put {W3 : World} {d : Nat} {o : Obj} {v' : Value} {l' : List Nat} (h : PrRow w base G nb vs P) (hd : d < nb) (hb : base ≤ w.heap.size) (ho : W3.ownsRow base 3 1 v' l'.length (natV l')) (hg : (w.alloc o).grownBy W3 vs[d]!.ownBlock)
  (hat : v'.ownBlock = vs[d]!.ownBlock ∨ ∃ g, v'.ownBlock = some g ∧ w.heap.size ≤ g) : PrRow (W3.setCell ⟨G, d, none⟩ v') base G nb (vs.set d v') (P.set d l') := by
 have hG3 : Blk W3 G 23 vs.toArray := blk_grown h.g (h.r d hd) (by decide) hg
 have k : Keeps W3 (W3.setCell ⟨G, d, none⟩ v') [G] := (Keeps.refl _ _).setCell (.inl (by simp)) _
 have hdv : d < vs.length := by rw [h.lv]; exact hd
 have hdp : d < P.length := by rw [h.lp]; exact hd
 have hout : ∀ {n : Nat} {v : Value} {xs : List Value}, W3.ownsRow base 3 1 v n xs → ∀ k, v.ownBlock = some k → k ∉ [G] := fun hr k hk hm => by
  simp at hm; subst hm; exact own_ne hr hG3 (by decide) hk
 have old : ∀ c, c < nb → c ≠ d → W3.ownsRow base 3 1 vs[c]! P[c]!.length (natV P[c]!) := fun c hc hne => by
  refine World.ownsRow.kept (own_keep (h.r c hc) ((Keeps.refl w []).alloc _) (by simp)) hg ?_
  cases e : vs[c]!.ownBlock with
  | none => exact .inl rfl
  | some k => exact .inr (fun e2 => h.ap c d hc hd hne k e e2.symm)
 have fresh : ∀ c, c < nb → ∀ k, vs[c]!.ownBlock = some k → k < w.heap.size := fun c hc k hk => (own_lt (h.r c hc) hk).1
 refine ⟨by rw [List.length_set]; exact h.lv, by rw [List.length_set]; exact h.lp, ?_, fun c hc => ?_, fun b c hb hc hne k hk => ?_⟩
 ·have := hG3.set_ d v'
  rwa [List.setIfInBounds_toArray] at this
 ·rw [ln_set hdv, ln_set hdp]
  by_cases e : c = d
  ·rw [if_pos e, if_pos e]; exact own_keep ho k (hout ho)
  ·rw [if_neg e, if_neg e]; exact own_keep (old c hc e) k (hout (old c hc e))
 ·rw [ln_set hdv] at hk ⊢
  by_cases e1 : b = d
  ·rw [if_pos e1] at hk
   rw [if_neg (by omega)]
   rcases hat with ha | ⟨g, ha, hg2⟩
   ·rw [ha] at hk; exact h.ap d c hd hc (by omega) k hk
   ·rw [ha] at hk; intro e2
    have := fresh c hc k e2
    simp at hk; omega
  ·rw [if_neg e1] at hk
   by_cases e2 : c = d
   ·rw [if_pos e2]
    rcases hat with ha | ⟨g, ha, hg2⟩
    ·rw [ha]; exact h.ap b d hb hd e1 k hk
    ·rw [ha]; intro e3
     have := fresh b hb k hk
     simp at e3; omega
   ·rw [if_neg e2]; exact h.ap b c hb hc hne k hk
end
theorem EndRow.put {w W3 : World} {base G nb eb eo d : Nat} {EM : List Int} {vs : List Value} {P : List (List Nat)} {o : Obj} {v' : Value} (h : EndRow w G nb eb eo EM vs) (hP : PrRow w base G nb vs P) (hd : d < nb) (hE : 0 < EM.length) (hg : (w.alloc o).grownBy W3 vs[d]!.ownBlock)
  (hat : v'.ownBlock = vs[d]!.ownBlock ∨ ∃ g, v'.ownBlock = some g ∧ w.heap.size ≤ g) : EndRow (W3.setCell ⟨G, d, none⟩ v') G nb eb eo EM (vs.set d v') := by
 obtain ⟨h1, h2⟩ := blk_kept hg (h.ap hE d hd) (h.lt hE)
 have k : Keeps W3 (W3.setCell ⟨G, d, none⟩ v') [G] := (Keeps.refl _ _).setCell (.inl (by simp)) _
 have hlt := h.lt hE
 have h3 := k.block eb (by omega) (by simp; exact fun e => h.ne hE e.symm)
 refine ⟨fun j hj => ?_, fun _ => by have := k.size; omega, h.ne, fun _ b hb => ?_⟩
 ·rw [cellB_eq h3, cellB_eq h1]; exact h.cell j hj
 ·rw [ln_set (by rw [hP.lv]; exact hd)]
  by_cases e : b = d
  ·rw [if_pos e]
   rcases hat with ha | ⟨g, ha, hg2⟩
   ·rw [ha]; exact h.ap hE d hd
   ·rw [ha]; intro e2; simp at e2; omega
  ·rw [if_neg e]; exact h.ap hE b hb
/-- what the going through comes to: all blocks ahead of x, of x's ends those ahead of e -/
structure PrI (f : FuncM) (P : List (List Nat)) (x e : Nat) : Prop where
 mem : ∀ b, b < f.nb → ∀ p, p ∈ P[b]! ↔ (p < x ∧ p < f.nb ∧ b ∈ endsN f p) ∨ (p = x ∧ b ∈ (endsN f x).take e)
 len : ∀ b, b < f.nb → P[b]!.length ≤ 2 * x + e
theorem pr_start (f : FuncM) : PrI f (List.replicate f.nb []) 0 0 :=
 ⟨fun b hb p => by rw [rep_at _ hb]; simp, fun b hb => by rw [rep_at _ hb]; simp⟩
theorem pr_step {f : FuncM} {P : List (List Nat)} {x e d : Nat} (h : PrI f P x e) (hl : P.length = f.nb) (he : e < (endsN f x).length) (hd : (endsN f x)[e]! = d) (hdn : d < f.nb) : PrI f (P.set d (P[d]! ++ [x])) x (e + 1) := by
 have hdp : d < P.length := by rw [hl]; exact hdn
 have ht : (endsN f x).take (e + 1) = (endsN f x).take e ++ [d] := by rw [List.take_succ_eq_append_getElem he, ← hd, getElem!_pos _ e he]
 refine ⟨fun b hb p => ?_, fun b hb => ?_⟩
 ·rw [ln_set hdp, ht]
  by_cases e1 : b = d
  ·rw [if_pos e1, List.mem_append, List.mem_singleton, ← e1, h.mem b hb]
   simp only [List.mem_append, List.mem_singleton]
   constructor
   ·rintro ((h1 | h1) | h1)
    ·exact .inl h1
    ·exact .inr ⟨h1.1, .inl h1.2⟩
    ·exact .inr ⟨h1, .inr trivial⟩
   ·rintro (h1 | ⟨h1, h2 | h2⟩)
    ·exact .inl (.inl h1)
    ·exact .inl (.inr ⟨h1, h2⟩)
    ·exact .inr h1
  ·rw [if_neg e1, h.mem b hb]
   simp only [List.mem_append, List.mem_singleton, e1, or_false]
 ·rw [ln_set hdp]
  have := h.len b hb
  by_cases e1 : b = d
  ·rw [if_pos e1, ← e1, List.length_append, List.length_singleton]; omega
  ·rw [if_neg e1]; omega
theorem pr_next {f : FuncM} {P : List (List Nat)} {x : Nat} (hx : x < f.nb) (h : PrI f P x (endsN f x).length) : PrI f P (x + 1) 0 := by
 have h2 := endsN_len f x
 refine ⟨fun b hb p => ?_, fun b hb => by have := h.len b hb; omega⟩
 rw [h.mem b hb, List.take_length, List.take_zero]
 constructor
 ·rintro (h1 | ⟨rfl, h1⟩)
  ·exact .inl ⟨by omega, h1.2⟩
  ·exact .inl ⟨by omega, hx, h1⟩
 ·rintro (h1 | h1)
  ·by_cases e : p = x
   ·exact .inr ⟨e, e ▸ h1.2.2⟩
   ·exact .inl ⟨by omega, h1.2⟩
  ·exact absurd h1.2 (by simp)
structure PredsOK (f : FuncM) (P : List (List Nat)) : Prop where
 mem : ∀ b, b < f.nb → ∀ p, p ∈ P[b]! ↔ p < f.nb ∧ b ∈ succF f p
 len : ∀ b, b < f.nb → P[b]!.length ≤ 2 * f.nb
theorem pr_done {f : FuncM} (hE : EndsOK f) {P : List (List Nat)} (h : PrI f P f.nb 0) : PredsOK f P :=
 ⟨fun b hb p => by
  rw [h.mem b hb]
  constructor
  ·rintro (h1 | h1)
   ·exact ⟨h1.1, (ends_succ hE h1.1).1 h1.2.2⟩
   ·exact absurd h1.2 (by simp)
  ·rintro ⟨h1, h2⟩
   exact .inl ⟨h1, h1, (ends_succ hE h1).2 h2⟩, fun b hb => by have := h.len b hb; omega⟩
set_option maxRecDepth 100000 in
set_option maxHeartbeats 200000000 in
theorem preds_any (f : FuncM) (w : World) (hf : FuncAt w f) (hE : EndsOK f) : Calls Tryz.prog 102 #[f.val] w fun e w' => (∃ g, e = .returned (.slice (some ⟨g, 0, none⟩) f.nb f.nb) ∧ ∃ vs P, PrRow w' w.heap.size g f.nb vs P ∧ PredsOK f P) ∧ Keeps w w' [] := by
 obtain ⟨i3, hi3, he3⟩ := Option.map_eq_some_iff.1 info3c
 simp only [Prod.mk.injEq] at he3
 obtain ⟨hz3, hs3, hb3⟩ := he3
 have hn := hE.nb
 have hmk := make_slices f.nb hn
 have HE := kept hE
 obtain ⟨a0, c0, a1, c1, a2, c2, e0, e1, e2, hval, h1, HF, HC0, HC1, HC2, HNV, HNP, HNB⟩ := fopen hf
 rw [hval]
 clear hval h1 e0 e1 e2 hf HC0 HC1 hE
 obtain ⟨HK, Bl⟩ := fbox w 26 #[.slice a0 f.nv c0, .slice a1 f.np c1, .slice a2 f.nb c2]
 obtain ⟨l0, l1, l2⟩ := Bl.out.c3
 simp at l0 l1 l2
 go_enter Tryz.func102, Tryz.ntmps102
 go_upto_region 1 with (fail)
 have hszw : w.heap.size ≤ (w.alloc (.cells #[.slice a0 f.nv c0, .slice a1 f.np c1, .slice a2 f.nb c2] 26)).heap.size := by show _ ≤ (Array.push _ _).size; simp [Array.size_push]
 clear l0 l1 l2
 generalize (w.alloc (.cells #[.slice a0 f.nv c0, .slice a1 f.np c1, .slice a2 f.nb c2] 26)) = W0 at *
 have Bl_W0 := Bl
 have TW0 := HK
 clear HK
 have HK := kept (Keeps.refl W0 [])
 obtain ⟨l0, l1, l2⟩ := Bl.out.c3
 simp at l0 l1 l2
 have HSW := kept hszw
 clear hszw
 go_upto_region 2 with (fail)
 have k3 : Keeps W0 (W0.alloc (.cells (Array.replicate f.nb (Value.slice none 0 0)) 23)) [] := (Keeps.refl _ []).alloc _
 have bb := Blk.new W0 23 (Array.replicate f.nb (Value.slice none 0 0))
 clear l0 l1 l2
 replace Bl := kept (Bl.out.keep k3 (by simp))
 replace HK := kept (HK.out.and_then k3)
 obtain ⟨l0, l1, l2⟩ := Bl.out.c3
 simp at l0 l1 l2
 have HP := kept (show PrRow (W0.alloc (.cells (Array.replicate f.nb (Value.slice none 0 0)) 23)) W0.heap.size W0.heap.size f.nb (List.replicate f.nb (Value.slice none 0 0)) (List.replicate f.nb []) from ⟨by simp, by simp, by rw [List.toArray_replicate]; exact bb, fun b hb => by rw [rep_at _ hb, rep_at _ hb]; exact World.ownsRow_nil _ _ _ _, fun b c hb hc _ k hk => by rw [rep_at _ hb] at hk; cases hk⟩)
 clear bb k3
 generalize (W0.alloc (.cells (Array.replicate f.nb (Value.slice none 0 0)) 23)) = W1 at *
 obtain ⟨gs, hgs⟩ : ∃ gs, gs = W0.heap.size := ⟨_, rfl⟩
 rw [show PrRow W1 W0.heap.size W0.heap.size f.nb (List.replicate f.nb (Value.slice none 0 0)) (List.replicate f.nb []) = PrRow W1 W0.heap.size gs f.nb (List.replicate f.nb (Value.slice none 0 0)) (List.replicate f.nb []) by rw [hgs]] at HP
 simp only [← hgs]
 have HGS := kept (show W0.heap.size ≤ gs by omega)
 clear hgs hmk
 go_wp2
 go_loopw [15] (fun i' wx => ∃ (x : Nat) (vs : List Value) (P : List (List Nat)), x ≤ f.nb ∧ i' = .int .i64 x ∧ Hid (PrRow wx W0.heap.size gs f.nb vs P) ∧ Hid (PrI f P x 0) ∧ Keeps W0 wx []) (fun i' _ => f.nb - (intOf i').toNat)
 case atStart => exact ⟨0, _, _, Nat.zero_le _, rfl, HP.out, pr_start f, HK.out⟩
 case round =>
  obtain ⟨x, vs, P, hx, rfl, hP, hI, hr⟩ := hrel
  clear HP
  clear l0 l1 l2
  clear Bl HK
  have HK := kept hr
  have Bl := kept (Bl_W0.out.keep hr (by simp))
  clear hr
  obtain ⟨l0, l1, l2⟩ := Bl.out.c3
  simp at l0 l1 l2
  have HP := kept hP.out
  have HI := kept hI.out
  clear hP hI
  by_cases hlx : x < f.nb
  ·have hlxz : (x : Int) < (f.nb : Int) := by omega
   obtain ⟨yb, yo, e8, hyb, hbc⟩ := HC2.out x (by rw [HNB.out]; exact hlx)
   obtain rfl := e8
   have HBA := kept (HF.out.block _ (bang_mem (l := f.blocks.2) (k := x) hlx))
   have y0 := (TW0.out.and_then HK.out).cellOf (hbc 0 _ rfl)
   have y1 := (TW0.out.and_then HK.out).cellOf (hbc 1 _ rfl)
   have y2 := (TW0.out.and_then HK.out).cellOf (hbc 2 _ rfl)
   have y3 := (TW0.out.and_then HK.out).cellOf (hbc 3 _ rfl)
   have y4 := (TW0.out.and_then HK.out).cellOf (hbc 4 _ rfl)
   have y5 := (TW0.out.and_then HK.out).cellOf (hbc 5 _ rfl)
   have y6 := (TW0.out.and_then HK.out).cellOf (hbc 6 _ rfl)
   simp only [Nat.add_zero] at y0
   clear hbc HC2
   obtain ⟨qa, qc, e7, -, -, -⟩ := HBA.out.insts.open_
   rw [e7] at y2
   obtain ⟨pa, pc, e6, -, -, -⟩ := HBA.out.phis.open_
   rw [e6] at y1
   clear e6 e7 HBA
   have CE := kept (fun W => ends_any f.blocks.2[x]!.kind f.blocks.2[x]!.var f.blocks.2[x]!.to0 f.blocks.2[x]!.to1 f.blocks.2[x]! rfl rfl rfl W)
   have HEA := kept (fun k (hk : k < (endsM f.blocks.2[x]!).length) => ends_at HE.out hlx hk)
   have HEL := kept (show (endsN f x).length = (endsM f.blocks.2[x]!).length by unfold endsN; rw [List.length_map])
   have hTL : (endsM f.blocks.2[x]!).length ≤ 2 := ends_len _
   generalize f.blocks.2[x]! = y at *
   generalize endsM y = EM at *
   generalize y.name = yn at *
   generalize y.phis.2.length = pn at *
   generalize y.insts.2.length = yil at *
   generalize y.kind = yk at *
   generalize y.var = yv at *
   generalize y.to0 = yt0 at *
   generalize y.to1 = yt1 at *
   go_upto_region 5 with (fail)
   clear y0 y1 y2 y3 y4 y5 y6
   have kx : Keeps wr (wr.alloc (.cells #[.string yn, .slice pa pn pc, .slice qa yil qc, .int .i64 yk, .int .i64 yv, .int .i64 yt0, .int .i64 yt1] 38)) [] := (Keeps.refl wr []).alloc _
   replace HP := kept (HP.out.keep kx)
   clear kx
   clear l0 l1 l2
   have bmx := Blk.new wr 38 #[.string yn, .slice pa pn pc, .slice qa yil qc, .int .i64 yk, .int .i64 yv, .int .i64 yt0, .int .i64 yt1]
   have k3 : Keeps wr (wr.alloc (.cells #[.string yn, .slice pa pn pc, .slice qa yil qc, .int .i64 yk, .int .i64 yv, .int .i64 yt0, .int .i64 yt1] 38)) [] := (Keeps.refl wr []).alloc _
   replace Bl := kept (Bl.out.keep k3 (by simp))
   replace HK := kept (HK.out.and_then k3)
   have Bx := kept bmx
   clear k3 bmx
   obtain ⟨l0, l1, l2⟩ := Bl.out.c3
   obtain ⟨x0, x1, x2, x3, x4, x5, x6⟩ := Bx.out.c7
   simp at l0 l1 l2 x0 x1 x2 x3 x4 x5 x6
   generalize hWX : (wr.alloc (.cells #[.string yn, .slice pa pn pc, .slice qa yil qc, .int .i64 yk, .int .i64 yv, .int .i64 yt0, .int .i64 yt1] 38)) = W4 at *
   clear hWX
   generalize wr.heap.size = bx at *
   clear l0 l1 l2 x0 x1 x2 x3 x4 x5 x6
   obtain ⟨l0, l1, l2⟩ := Bl.out.c3
   obtain ⟨x0, x1, x2, x3, x4, x5, x6⟩ := Bx.out.c7
   simp at l0 l1 l2 x0 x1 x2 x3 x4 x5 x6
   go_upto_region 6 with (first | (go_at_call 126; refine (CE.out _).mono ?_; rintro e w3 ⟨⟨q, rfl, hq2, hq3, hq4⟩, k3⟩; have HQA := kept hq3; have HQB := kept hq4; have HPL := kept (fun b hb k hk => (own_lt (HP.out.r b hb) (k := k) hk).1); have HGL := kept HP.out.g.lt; have HQL := kept hq2; clear hq2 hq3 hq4; replace HP := kept (HP.out.keep k3); clear l0 l1 l2 x0 x1 x2 x3 x4 x5 x6; replace Bl := kept (Bl.out.keep k3 (by simp)); replace Bx := kept (Bx.out.keep k3 (by simp)); replace HK := kept (HK.out.and_then k3); obtain ⟨l0, l1, l2⟩ := Bl.out.c3; obtain ⟨x0, x1, x2, x3, x4, x5, x6⟩ := Bx.out.c7; simp at l0 l1 l2 x0 x1 x2 x3 x4 x5 x6; clear k3; obtain ⟨ta, tc, e9, htl, htm, hte⟩ := Row.open_ (M := Int) (cells := intCells) HQA.out; rw [e9]; rw [e9] at HQB; rw [HQL.out] at htl hte HQB ⊢; have HTE := kept hte; clear e9 hte HQA HQL))
   have HTA : Hid (∃ eb eo, (∀ j, j < EM.length → ta = some ⟨eb, eo, none⟩) ∧ EndRow w3 gs f.nb eb eo EM vs) := by
        rcases Nat.eq_zero_or_pos EM.length with h0 | h0
        ·exact ⟨0, 0, fun j hj => by omega, fun j hj => by omega, fun h => by omega, fun h => by omega, fun h => by omega⟩
        ·obtain ⟨eb, eo, rfl, hlt, -⟩ := HTE.out 0 h0
         have hge := HQB.out eb rfl
         refine ⟨eb, eo, fun j hj => rfl, fun j hj => ?_, fun _ => hlt, fun _ e => by have h9 := HGL.out; omega, fun _ b hb e => by have h9 := HPL.out b hb eb e; omega⟩
         obtain ⟨b2, o2, e2, -, hc2⟩ := HTE.out j hj
         simp only [Option.some.injEq, Addr.mk.injEq] at e2
         obtain ⟨rfl, rfl, -⟩ := e2
         have := hc2 0 _ rfl
         simpa using this
   obtain ⟨eb, eo, hta, hER⟩ := HTA.out
   have HTS := kept hta
   have HER := kept hER
   clear hta hER HTA HTE HQB HPL HGL
   go_loopw [24] (fun i' wx => ∃ (e : Nat) (vs : List Value) (P : List (List Nat)), e ≤ EM.length ∧ i' = .int .i64 e ∧ Hid (PrRow wx W0.heap.size gs f.nb vs P) ∧ Hid (PrI f P x e) ∧ Hid (EndRow wx gs f.nb eb eo EM vs) ∧ Keeps W0 wx []) (fun i' _ => EM.length - (intOf i').toNat)
   case atStart => exact ⟨0, vs, P, Nat.zero_le _, rfl, HP.out, HI.out, HER.out, HK.out⟩
   case round =>
    obtain ⟨e, vs2, P2, he, rfl, hP, hI, hER, hr⟩ := hrel
    clear HP HI HER
    clear l0 l1 l2 x0 x1 x2 x3 x4 x5 x6
    clear Bl Bx HK
    have HK := kept hr
    have HP := kept hP.out
    have HI := kept hI.out
    have HER := kept hER.out
    clear hr hP hI hER
    by_cases hle : e < EM.length
    ·have hlez : (e : Int) < (EM.length : Int) := by omega
     obtain ⟨hd1, hd2⟩ := HEA.out e hle
     have hte := HTS.out e hle
     obtain rfl := hte
     have e0 := HER.out.cell e hle
     rw [← hd1] at e0
     have HDD := kept (show (endsN f x)[e]! = (endsN f x)[e]! from rfl)
     generalize hdd : (endsN f x)[e]! = d at hd2 e0
     replace HDD := kept hdd
     clear hdd hd1
     have hdz : (d : Int) < (f.nb : Int) := by omega
     have d0 := HP.out.cell hd2
     have d1 := HP.out.g.frozen d
     have HPS := kept (pr_step HI.out HP.out.lp (by rw [HEL.out]; exact hle) HDD.out hd2)
     have HLN := kept (HI.out.len d hd2)
     have HRW := kept (HP.out.r d hd2)
     have HOW := kept (show vs2[d]! = vs2[d]! from rfl)
     generalize hvd : vs2[d]! = vd at d0 HRW
     replace HOW := kept hvd
     clear hvd
     generalize hpl : P2[d]!.length = pl at HRW HLN
     have HPLn := kept hpl
     clear hpl
     obtain ⟨va, vc, rfl, -, -⟩ := own_form HRW.out
     have HSZ := kept HK.out.size
     go_upto_region 9 with (first | (at_builtin; go_must (refine wpList_append_own_at _ rfl (.tmp 33) (.tmp 35) 23 rfl W0.heap.size 3 i3 (.int .i64 0) 1 8 Tryz.underlying23 hi3 hz3 hs3 hb3 rfl (by decide) (.slice va pl vc) pl (natV P2[d]!) rfl (own_keep HRW.out ((Keeps.refl wr []).alloc _) (by simp)) ⟨wr.heap.size, 0, none⟩ 1 1 [.int .i64 (x : Nat)] rfl rfl (news_one _ _ _) (ones_one rfl) (by have h9 := HLN.out; unfold maxLen; omega) (by have h9 := HLN.out; omega) (by rw [size_alloc1]; have h9 := HSZ.out; omega) ?_); go_must (intro v' w5 hown hgrow hnil hat; obtain ⟨va2, vc2, rfl, -, -⟩ := own_form hown; have hO5 := kept hown; have hG5 := kept hgrow; have hA5 := kept hat; clear hown hgrow hnil hat; have d2 : w5.cell? ⟨gs, d, none⟩ = some (.slice va pl vc) := (by have h9 := (blk_grown HP.out.g HRW.out (by decide) hG5.out).cell d; rw [h9, ← HP.out.g.cell d]; exact d0); have d3 := (blk_grown HP.out.g HRW.out (by decide) hG5.out).frozen d; clear d0 d1 e0)))
     have HAT : Hid ((Value.slice va2 (pl + 1) vc2).ownBlock = vs2[d]!.ownBlock ∨ ∃ g, (Value.slice va2 (pl + 1) vc2).ownBlock = some g ∧ wr.heap.size ≤ g) := by rw [HOW.out]; rcases hA5.out with h | h; exact .inl h; exact .inr ⟨_, h, by rw [size_alloc1]; omega⟩
     have hG6 : ((wr.alloc (.cells #[.int .i64 (x : Nat)] 3)).grownBy w5 vs2[d]!.ownBlock) := by rw [HOW.out]; exact hG5.out
     have hPP := HP.out.put hd2 HSZ.out (l' := P2[d]! ++ [x]) (by have h9 := hO5.out; rw [List.length_append, List.length_singleton, HPLn.out]; unfold natV at h9 ⊢; rw [List.map_append]; exact h9) hG6 HAT.out
     have hEE := HER.out.put HP.out hd2 (by omega) hG6 HAT.out
     have hKK : Keeps W0 w5 [] := keeps_grown HK.out HRW.out (Nat.le_refl _) hG5.out
     clear d2 d3
     go_wp2
     go_roundw
     case rel => exact ⟨e + 1, _, _, by omega, by go_num, hPP, HPS.out, hEE, hKK.setCell (.inr HGS.out) _⟩
     case measure => simp [intOf]; omega
    ·have hlez : ¬ (e : Int) < (EM.length : Int) := by omega
     obtain rfl : e = EM.length := by omega
     go_wp2
     go_roundw
     case rel => exact ⟨x + 1, vs2, P2, by omega, by go_num, HP.out, pr_next hlx (by rw [HEL.out]; exact HI.out), HK.out⟩
     case measure => simp [intOf]; omega
  ·have hlxz : ¬ (x : Int) < (f.nb : Int) := by omega
   obtain rfl : x = f.nb := by omega
   go_wp2
   go_ret
   exact ⟨⟨gs, rfl, vs, P, ⟨HP.out.lv, HP.out.lp, HP.out.g, fun b hb => own_low (HP.out.r b hb) HSW.out, HP.out.ap⟩, pr_done HE.out HI.out⟩, (TW0.out.and_then HK.out)⟩
end Go.Proofs.YtjllbchfojonhaaGreatDoor
