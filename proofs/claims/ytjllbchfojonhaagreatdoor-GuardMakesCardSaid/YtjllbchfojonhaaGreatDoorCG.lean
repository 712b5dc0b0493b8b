/- Package typing: Guards, Count; contracts. -/
import Derived.Test.YtjllbchfojonhaaGreatDoorFewX
namespace Go.Proofs.YtjllbchfojonhaaGreatDoor
open Go.RowKit
set_option linter.unusedVariables false
set_option linter.unusedSimpArgs false

/-- how many of these operations are checks of a trap -/
def cntO (l : List Int) (t : Nat) : Nat := (l.filter fun op => chkB op && (op - 17 == (t : Int))).length
def cV (l : List Int) (t : Nat) : Value := .int .i64 (cntO l t : Nat)
def cntV (l : List Int) : Array Value := #[cV l 0, cV l 1, cV l 2, cV l 3, cV l 4, cV l 5, cV l 6, cV l 7]
theorem cnt_le (l : List Int) (t : Nat) : cntO l t ≤ l.length := List.length_filter_le ..
theorem cnt_snoc (l : List Int) (op : Int) (t : Nat) : cntO (l ++ [op]) t = cntO l t + if (chkB op && (op - 17 == (t : Int))) = true then 1 else 0 := by
  unfold cntO
  rw [List.filter_append, List.length_append]
  congr 1
  cases h : (chkB op && (op - 17 == (t : Int))) <;> simp [h]
theorem cntV_no (l : List Int) (op : Int) (h : chkB op = false) : cntV (l ++ [op]) = cntV l := by
  unfold cntV cV
  simp only [cnt_snoc, h, Bool.false_and, Bool.false_eq_true, if_false, Nat.add_zero]
theorem cntV_yes (l : List Int) (op : Int) (h : chkB op = true) : cntV (l ++ [op]) = (cntV l).setIfInBounds (op - 17).toNat (.int .i64 ((cntO l (op - 17).toNat + 1 : Nat) : Int)) := by
  have h2 : 18 ≤ op ∧ op ≤ 24 := by simpa [chkB] using h
  have h3 : op = 18 ∨ op = 19 ∨ op = 20 ∨ op = 21 ∨ op = 22 ∨ op = 23 ∨ op = 24 := by omega
  unfold cntV cV
  simp only [cnt_snoc, h, Bool.true_and]
  rcases h3 with rfl | rfl | rfl | rfl | rfl | rfl | rfl <;> simp
theorem cntV_at (l : List Int) (t : Nat) (h : t < 8) : (cntV l)[t]? = some (cV l t) := by
  unfold cntV
  have : t = 0 ∨ t = 1 ∨ t = 2 ∨ t = 3 ∨ t = 4 ∨ t = 5 ∨ t = 6 ∨ t = 7 := by omega
  rcases this with rfl | rfl | rfl | rfl | rfl | rfl | rfl | rfl <;> rfl
def opsB (b : BlockM) : List Int := b.insts.2.map InstM.op
def opsT (f : FuncM) (k : Nat) : List Int := (f.blocks.2.take k).flatMap opsB
theorem opsT_step (f : FuncM) (k : Nat) (hk : k < f.nb) : opsT f (k + 1) = opsT f k ++ opsB f.blocks.2[k]! := by
  unfold opsT
  rw [List.take_succ_eq_append_getElem (show k < f.blocks.2.length from hk), getElem!_pos f.blocks.2 k hk, List.flatMap_append]
  simp
  try rfl
theorem insts_take (y : BlockM) (j : Nat) (hj : j < y.insts.2.length) : (opsB y).take (j + 1) = (opsB y).take j ++ [y.insts.2[j]!.op] := by
  unfold opsB
  rw [List.take_succ_eq_append_getElem (by simpa using hj), getElem!_pos y.insts.2 j hj]
  simp
theorem trap_any (op : Int) (w : World) (hop : -9223372036854775808 ≤ op ∧ op ≤ 9223372036854775807) : Calls Tryz.prog 107 #[.int .i64 op] w fun e w' => e = .returned (.int .i64 (if chkB op = true then op - 17 else 0)) ∧ w = w' := by
 have C := kept (fun w => check_any op w)
 rcases Bool.eq_false_or_eq_true (chkB op) with h | h
 ·have hb : 18 ≤ op ∧ op ≤ 24 := by simpa [chkB] using h
  obtain ⟨h3, h4⟩ := hb
  rw [h] at C ⊢
  rw [if_pos rfl]
  clear h hop
  go_enter Tryz.func107, Tryz.ntmps107
  go_wp2_with fail
  refine (C.out _).mono ?_
  rintro e w' ⟨rfl, rfl⟩
  go_wp2
  go_ret
  exact ⟨ret_int (by omega), rfl⟩
 ·rw [h] at C ⊢
  rw [if_neg (by decide)]
  clear h hop
  go_enter Tryz.func107, Tryz.ntmps107
  go_wp2_with fail
  refine (C.out _).mono ?_
  rintro e w' ⟨rfl, rfl⟩
  go_wp2
  go_ret
  exact ⟨rfl, rfl⟩
theorem trap_at (op : Int) (h : chkB op = true) (w : World) : Calls Tryz.prog 107 #[.int .i64 op] w fun e w' => e = .returned (.int .i64 (((op - 17).toNat : Nat) : Int)) ∧ w = w' := by
  have h2 : 18 ≤ op ∧ op ≤ 24 := by simpa [chkB] using h
  have := trap_any op w (by omega)
  rw [if_pos h] at this
  rw [show (((op - 17).toNat : Nat) : Int) = op - 17 by omega]
  exact this
theorem blk_other {W : World} {g h : Nat} {t : TypeId} {cs : Array Value} (hb : Blk W g t cs) (hne : g ≠ h) (i : Nat) (u : Value) : Blk (W.setCell ⟨h, i, none⟩ u) g t cs := by
  unfold Blk at hb ⊢
  rw [World.setCell]
  simp [Array.getElem?_modify, hb, Ne.symm hne]

set_option maxRecDepth 100000 in
set_option maxHeartbeats 8000000 in
theorem guards_any (f : FuncM) (w : World) (hf : FuncAt w f) (hfew : FewP f) : Calls Tryz.prog 70 #[f.val] w fun e w' => e = .returned (.agg (cntV (f.blocks.2.flatMap opsB))) ∧ Keeps w w' [] := by
  obtain ⟨a0, c0, a1, c1, a2, c2, e0, e1, e2, hval, h1, HF, HC0, HC1, HC2, HNV, HNP, HNB⟩ := fopen hf
  have HFB := kept hfew.block
  have hnbF := hfew.nb
  rw [hval]
  clear e0 e1 e2 hval h1 hf hfew
  have hk0 : Keeps w (w.alloc (.cells #[.slice a0 f.nv c0, .slice a1 f.np c1, .slice a2 f.nb c2] 26)) [] := (Keeps.refl _ []).alloc _
  have hk1 : Keeps (w.alloc (.cells #[.slice a0 f.nv c0, .slice a1 f.np c1, .slice a2 f.nb c2] 26)) ((w.alloc (.cells #[.slice a0 f.nv c0, .slice a1 f.np c1, .slice a2 f.nb c2] 26)).alloc (.cells #[.int .i64 0, .int .i64 0, .int .i64 0, .int .i64 0, .int .i64 0, .int .i64 0, .int .i64 0, .int .i64 0] 65)) [] := (Keeps.refl _ []).alloc _
  have hk2 : Keeps ((w.alloc (.cells #[.slice a0 f.nv c0, .slice a1 f.np c1, .slice a2 f.nb c2] 26)).alloc (.cells #[.int .i64 0, .int .i64 0, .int .i64 0, .int .i64 0, .int .i64 0, .int .i64 0, .int .i64 0, .int .i64 0] 65)) (((w.alloc (.cells #[.slice a0 f.nv c0, .slice a1 f.np c1, .slice a2 f.nb c2] 26)).alloc (.cells #[.int .i64 0, .int .i64 0, .int .i64 0, .int .i64 0, .int .i64 0, .int .i64 0, .int .i64 0, .int .i64 0] 65)).alloc (.cells #[.int .i64 0, .int .i64 0, .int .i64 0, .int .i64 0, .int .i64 0, .int .i64 0, .int .i64 0, .int .i64 0] 65)) [] := (Keeps.refl _ []).alloc _
  have bb0 := Blk.new w 26 #[.slice a0 f.nv c0, .slice a1 f.np c1, .slice a2 f.nb c2]
  have bb1 := Blk.new (w.alloc (.cells #[.slice a0 f.nv c0, .slice a1 f.np c1, .slice a2 f.nb c2] 26)) 65 #[.int .i64 0, .int .i64 0, .int .i64 0, .int .i64 0, .int .i64 0, .int .i64 0, .int .i64 0, .int .i64 0]
  have bb2 := Blk.new ((w.alloc (.cells #[.slice a0 f.nv c0, .slice a1 f.np c1, .slice a2 f.nb c2] 26)).alloc (.cells #[.int .i64 0, .int .i64 0, .int .i64 0, .int .i64 0, .int .i64 0, .int .i64 0, .int .i64 0, .int .i64 0] 65)) 65 #[.int .i64 0, .int .i64 0, .int .i64 0, .int .i64 0, .int .i64 0, .int .i64 0, .int .i64 0, .int .i64 0]
  rw [show (w.alloc (.cells #[.slice a0 f.nv c0, .slice a1 f.np c1, .slice a2 f.nb c2] 26)).heap.size = w.heap.size + 1 from Array.size_push _] at bb1
  rw [show ((w.alloc (.cells #[.slice a0 f.nv c0, .slice a1 f.np c1, .slice a2 f.nb c2] 26)).alloc (.cells #[.int .i64 0, .int .i64 0, .int .i64 0, .int .i64 0, .int .i64 0, .int .i64 0, .int .i64 0, .int .i64 0] 65)).heap.size = w.heap.size + 1 + 1 from (Array.size_push _).trans (congrArg (fun z => z + 1) (Array.size_push _))] at bb2
  have BL := kept ((bb0.keep hk1 (by simp)).keep hk2 (by simp))
  have BR := kept (bb1.keep hk2 (by simp))
  have BC := kept bb2
  have HK := kept ((hk0.and_then hk1).and_then hk2)
  have l2 := BL.out.cell 2
  simp at l2
  clear hk0 hk1 hk2 bb0 bb1 bb2
  go_enter Tryz.func70, Tryz.ntmps70
  go_wp2
  clear l2
  generalize (((w.alloc (.cells #[.slice a0 f.nv c0, .slice a1 f.np c1, .slice a2 f.nb c2] 26)).alloc (.cells #[.int .i64 0, .int .i64 0, .int .i64 0, .int .i64 0, .int .i64 0, .int .i64 0, .int .i64 0, .int .i64 0] 65)).alloc (.cells #[.int .i64 0, .int .i64 0, .int .i64 0, .int .i64 0, .int .i64 0, .int .i64 0, .int .i64 0, .int .i64 0] 65)) = W0 at *
  go_loopw [11] (fun i wr => ∃ k : Nat, k ≤ f.nb ∧ i = .int .i64 k ∧ Keeps w wr [] ∧ Blk wr w.heap.size 26 #[.slice a0 f.nv c0, .slice a1 f.np c1, .slice a2 f.nb c2] ∧ Blk wr (w.heap.size + 1) 65 #[.int .i64 0, .int .i64 0, .int .i64 0, .int .i64 0, .int .i64 0, .int .i64 0, .int .i64 0, .int .i64 0] ∧ Blk wr (w.heap.size + 1 + 1) 65 (cntV (opsT f k)) ∧ (opsT f k).length ≤ 1000 * k) (fun i _ => f.nb - (intOf i).toNat)
  case atStart => exact ⟨0, Nat.zero_le _, rfl, HK.out, BL.out, BR.out, BC.out, Nat.zero_le _⟩
  case round =>
    clear HK BL BR BC
    obtain ⟨k, hk, rfl, hK, hL, hR, hC, hlen⟩ := hrel
    have HK := kept hK
    have BL := kept hL
    have BR := kept hR
    have BC := kept hC
    have hltC := hC.lt
    clear hK hL hR hC
    by_cases hlt : k < f.nb
    · have hltz : (k : Int) < (f.nb : Int) := by omega
      obtain ⟨bb, off, rfl, hbl, hcell⟩ := HC2.out k (by rw [HNB.out]; exact hlt)
      have n0 := HK.out.cellOf (hcell 0 _ rfl)
      have n1 := HK.out.cellOf (hcell 1 _ rfl)
      have n2 := HK.out.cellOf (hcell 2 _ rfl)
      have n3 := HK.out.cellOf (hcell 3 _ rfl)
      have n4 := HK.out.cellOf (hcell 4 _ rfl)
      have n5 := HK.out.cellOf (hcell 5 _ rfl)
      have n6 := HK.out.cellOf (hcell 6 _ rfl)
      simp only [Nat.add_zero] at n0
      have hyb := HF.out.block _ (bang_mem (l := f.blocks.2) (k := k) (by rw [HNB.out]; exact hlt))
      have hfb := (HFB.out _ (bang_mem (l := f.blocks.2) (k := k) (by rw [HNB.out]; exact hlt))).2
      have HST := kept (opsT_step f k hlt)
      clear hcell HC2
      generalize hy : f.blocks.2[k]! = y at *
      clear hy
      obtain ⟨pa, pc, pe, -, -, -⟩ := hyb.phis.open_
      obtain ⟨qa, qc, qe, -, -, hqc⟩ := hyb.insts.open_
      have HYB := kept hyb
      rw [pe] at n1
      rw [qe] at n2
      have HQC := kept hqc
      clear hyb pe qe hqc
      generalize hPN : y.phis.2.length = pn at *
      generalize hQN : y.insts.2.length = qn at *
      have HQN := kept hQN
      clear hPN hQN
      generalize y.name = yn at *
      generalize y.kind = yk at *
      generalize y.var = yv at *
      generalize y.to0 = y0 at *
      generalize y.to1 = y1 at *
      generalize hLL : opsT f k = LL at *
      have HLL := kept hLL
      clear hLL
      have TWo := HK
      have k3 : Keeps wr (wr.alloc (.cells #[.string yn, .slice pa pn pc, .slice qa qn qc, .int .i64 yk, .int .i64 yv, .int .i64 y0, .int .i64 y1] 38)) [] := (Keeps.refl wr []).alloc _
      have BMx := kept (Blk.new wr 38 #[.string yn, .slice pa pn pc, .slice qa qn qc, .int .i64 yk, .int .i64 yv, .int .i64 y0, .int .i64 y1])
      have BLx := kept (BL.out.keep k3 (by simp))
      have BRx := kept (BR.out.keep k3 (by simp))
      have BCx := kept (BC.out.keep k3 (by simp))
      have HKx := kept (HK.out.and_then k3)
      clear k3 HK BL BR BC
      have BM := BMx
      have HK := HKx
      have BL := BLx
      have BR := BRx
      have BC := BCx
      clear BMx HKx BLx BRx BCx
      have l2 := BL.out.cell 2
      have m2 := BM.out.cell 2
      simp at l2 m2
      go_wp2
      clear l2 m2 n0 n1 n2 n3 n4 n5 n6
      obtain ⟨wo, hwo⟩ : ∃ wo : World, wo = wr := ⟨_, rfl⟩
      subst hwo
      have TWB : Hid (Keeps wo (wo.alloc (.cells #[.string yn, .slice pa pn pc, .slice qa qn qc, .int .i64 yk, .int .i64 yv, .int .i64 y0, .int .i64 y1] 38)) []) := (Keeps.refl wo []).alloc _
      generalize wo.alloc (.cells #[.string yn, .slice pa pn pc, .slice qa qn qc, .int .i64 yk, .int .i64 yv, .int .i64 y0, .int .i64 y1] 38) = WB at *
      go_loopw [18] (fun i wr => ∃ j : Nat, j ≤ qn ∧ i = .int .i64 j ∧ Keeps w wr [] ∧ Blk wr w.heap.size 26 #[.slice a0 f.nv c0, .slice a1 f.np c1, .slice (some ⟨bb, off, none⟩) f.nb c2] ∧ Blk wr (w.heap.size + 1) 65 #[.int .i64 0, .int .i64 0, .int .i64 0, .int .i64 0, .int .i64 0, .int .i64 0, .int .i64 0, .int .i64 0] ∧ Blk wr (w.heap.size + 1 + 1) 65 (cntV (LL ++ (opsB y).take j)) ∧ Blk wr wo.heap.size 38 #[.string yn, .slice pa pn pc, .slice qa qn qc, .int .i64 yk, .int .i64 yv, .int .i64 y0, .int .i64 y1]) (fun i _ => qn - (intOf i).toNat)
      case atStart => exact ⟨0, Nat.zero_le _, rfl, HK.out, BL.out, BR.out, by simpa using BC.out, BM.out⟩
      case round =>
        clear HK BL BR BC BM
        obtain ⟨j, hj, rfl, hK, hL, hR, hC, hM⟩ := hrel
        have HK := kept hK
        have BL := kept hL
        have BR := kept hR
        have BC := kept hC
        have BM := kept hM
        clear hK hL hR hC hM
        by_cases hltj : j < qn
        · have hltjz : (j : Int) < (qn : Int) := by omega
          have HIT := kept (insts_take y j (by rw [HQN.out]; exact hltj))
          obtain ⟨pb, po, rfl, hpb, hpcell⟩ := HQC.out j hltj
          have n0 := HK.out.cellOf (hpcell 0 _ rfl)
          have n1 := HK.out.cellOf (hpcell 1 _ rfl)
          have n2 := HK.out.cellOf (hpcell 2 _ rfl)
          have n3 := HK.out.cellOf (hpcell 3 _ rfl)
          simp only [Nat.add_zero] at n0
          have hpa := HYB.out.inst _ (bang_mem (l := y.insts.2) (k := j) (by rw [HQN.out]; exact hltj))
          clear hpcell HQC
          generalize y.insts.2[j]! = p at *
          obtain ⟨u1, v1, e1, -⟩ := IntsAt.open_ hpa
          rw [e1] at n2
          clear e1 hpa
          generalize p.args.2.length = pna at *
          generalize p.op = pop at *
          generalize p.dst = pdst at *
          generalize p.num = pnum at *
          generalize hM : LL ++ (opsB y).take j = MM at *
          have HMM := kept (show LL ++ (opsB y).take (j + 1) = MM ++ [pop] by rw [HIT.out, ← List.append_assoc, hM])
          have hMl : MM.length ≤ 1000 * k + j := by rw [← hM, List.length_append, List.length_take]; omega
          clear hM
          have k3 : Keeps wr (wr.alloc (.cells #[.int .i64 pop, .int .i64 pdst, .slice u1 pna v1, .int .i64 pnum] 43)) [] := (Keeps.refl wr []).alloc _
          have BQx := kept (Blk.new wr 43 #[.int .i64 pop, .int .i64 pdst, .slice u1 pna v1, .int .i64 pnum])
          have BLx := kept (BL.out.keep k3 (by simp))
          have BRx := kept (BR.out.keep k3 (by simp))
          have BCx := kept (BC.out.keep k3 (by simp))
          have BMx := kept (BM.out.keep k3 (by simp))
          have HKx := kept (HK.out.and_then k3)
          clear k3 HK BL BR BC BM
          have BQ := BQx
          have HK := HKx
          have BL := BLx
          have BR := BRx
          have BC := BCx
          have BM := BMx
          clear BQx HKx BLx BRx BCx BMx
          have q0 := BQ.out.cell 0
          simp at q0
          have CK := kept (fun w => check_any pop w)
          cases hck : chkB pop with
          | false =>
            rw [hck] at CK
            go_wp2_with (go_at_call 67; refine (CK.out _).mono ?_; rintro e w3 ⟨rfl, rfl⟩)
            go_roundw
            case rel => exact ⟨j + 1, by omega, by go_num, HK.out, BL.out, BR.out, by rw [HMM.out, cntV_no _ _ hck]; exact BC.out, BM.out⟩
            case measure => simp [intOf]; omega
          | true =>
            have CT := kept (fun w => trap_at pop hck w)
            have HCV := kept (cntV_yes MM pop hck)
            have hr8 : 18 ≤ pop ∧ pop ≤ 24 := by simpa [chkB] using hck
            rw [hck] at CK
            generalize htt : (pop - 17).toNat = tt at *
            have ht8 : tt < 8 := by omega
            have ht8I : (tt : Int) < 8 := by omega
            have ht0I : (0 : Int) ≤ (tt : Int) := by omega
            clear htt
            have hcl := cnt_le MM tt
            have ct0 := BC.out.cell tt
            rw [cntV_at _ _ ht8] at ct0
            have f0 := BC.out.frozen tt
            unfold cV at ct0
            have hnk : (cntO MM tt : Int) + 1 ≤ 9223372036854775807 := by have := hfb; omega
            have hC2 := BC.out.set_ tt (.int .i64 ((cntO MM tt + 1 : Nat) : Int))
            rw [← HCV.out] at hC2
            have HC9 := kept hC2
            clear hC2 HCV
            generalize cntO MM tt = cc at *
            go_wp2_with (first | (go_at_call 67; refine (CK.out _).mono ?_; rintro e w3 ⟨rfl, rfl⟩) | (go_at_call 107; refine (CT.out _).mono ?_; rintro e w3 ⟨rfl, rfl⟩))
            have hsz := HK.out.size
            go_roundw
            case rel =>
              have h9 := HC9.out
              rw [Int.natCast_add] at h9
              refine ⟨j + 1, by omega, by go_num, HK.out.setCell (.inr (by show w.heap.size ≤ w.heap.size + 1 + 1; omega)) _, blk_other BL.out (by omega) _ _, blk_other BR.out (by omega) _ _, by rw [HMM.out]; exact h9, blk_other BM.out (by omega) _ _⟩
            case measure => simp [intOf]; omega
        · have hltjz : ¬ (j : Int) < (qn : Int) := by omega
          obtain rfl : qn = j := by omega
          have hfin : LL ++ (opsB y).take qn = opsT f (k + 1) := by rw [HST.out, show (opsB y).take qn = opsB y from List.take_of_length_le (by unfold opsB; rw [List.length_map, HQN.out]; exact Nat.le_refl _)]
          have HFI := kept hfin
          clear hfin
          have hlen2 : Hid ((opsT f (k + 1)).length ≤ 1000 * (k + 1)) := by show _ ≤ _; rw [HST.out, List.length_append]; unfold opsB; rw [List.length_map, HQN.out]; omega
          go_wp2
          go_roundw
          case rel => exact ⟨k + 1, by omega, by go_num, HK.out, BL.out, BR.out, by rw [← HFI.out]; exact BC.out, hlen2.out⟩
          case measure => simp [intOf]; omega
    · have hltz : ¬ (k : Int) < (f.nb : Int) := by omega
      obtain rfl : f.nb = k := by omega
      clear HC2
      have HALL := kept (show opsT f f.nb = f.blocks.2.flatMap opsB by unfold opsT; rw [show f.blocks.2.take f.nb = f.blocks.2 by rw [← HNB.out]; exact List.take_length])
      rw [HALL.out] at BC
      clear hlen
      generalize hAA : f.blocks.2.flatMap opsB = AA at *
      have HAA := kept hAA
      clear hAA
      have HCV := kept (show cntV AA = #[cV AA 0, cV AA 1, cV AA 2, cV AA 3, cV AA 4, cV AA 5, cV AA 6, cV AA 7] from rfl)
      have hdd0 := HCV.out
      have bc : Blk wr (w.heap.size + 1 + 1) 65 #[.int .i64 (cntO AA 0 : Nat), .int .i64 (cntO AA 1 : Nat), .int .i64 (cntO AA 2 : Nat), .int .i64 (cntO AA 3 : Nat), .int .i64 (cntO AA 4 : Nat), .int .i64 (cntO AA 5 : Nat), .int .i64 (cntO AA 6 : Nat), .int .i64 (cntO AA 7 : Nat)] := BC.out
      have c0 := bc.cell 0
      have c1 := bc.cell 1
      have c2 := bc.cell 2
      have c3 := bc.cell 3
      have c4 := bc.cell 4
      have c5 := bc.cell 5
      have c6 := bc.cell 6
      have c7 := bc.cell 7
      have d0 := BR.out.cell 0
      have d1 := BR.out.cell 1
      have d2 := BR.out.cell 2
      have d3 := BR.out.cell 3
      have d4 := BR.out.cell 4
      have d5 := BR.out.cell 5
      have d6 := BR.out.cell 6
      have d7 := BR.out.cell 7
      have g0 := BR.out.frozen 0
      have g1 := BR.out.frozen 1
      have g2 := BR.out.frozen 2
      have g3 := BR.out.frozen 3
      have g4 := BR.out.frozen 4
      have g5 := BR.out.frozen 5
      have g6 := BR.out.frozen 6
      have g7 := BR.out.frozen 7
      simp at c0 c1 c2 c3 c4 c5 c6 c7 d0 d1 d2 d3 d4 d5 d6 d7
      generalize hga0 : (cntO AA 0 : Int) = a0' at *
      generalize hga1 : (cntO AA 1 : Int) = a1' at *
      generalize hga2 : (cntO AA 2 : Int) = a2' at *
      generalize hga3 : (cntO AA 3 : Int) = a3' at *
      generalize hga4 : (cntO AA 4 : Int) = a4' at *
      generalize hga5 : (cntO AA 5 : Int) = a5' at *
      generalize hga6 : (cntO AA 6 : Int) = a6' at *
      generalize hga7 : (cntO AA 7 : Int) = a7' at *
      have hset := ((((((((BR.out.set_ 0 (.int .i64 a0')).set_ 1 (.int .i64 a1')).set_ 2 (.int .i64 a2')).set_ 3 (.int .i64 a3')).set_ 4 (.int .i64 a4')).set_ 5 (.int .i64 a5')).set_ 6 (.int .i64 a6')).set_ 7 (.int .i64 a7'))
      have hks := ((((((((HK.out.setCell (p := ⟨w.heap.size + 1, 0, none⟩) (.inr (by show w.heap.size ≤ w.heap.size + 1; omega)) (.int .i64 a0')).setCell (p := ⟨w.heap.size + 1, 1, none⟩) (.inr (by show w.heap.size ≤ w.heap.size + 1; omega)) (.int .i64 a1')).setCell (p := ⟨w.heap.size + 1, 2, none⟩) (.inr (by show w.heap.size ≤ w.heap.size + 1; omega)) (.int .i64 a2')).setCell (p := ⟨w.heap.size + 1, 3, none⟩) (.inr (by show w.heap.size ≤ w.heap.size + 1; omega)) (.int .i64 a3')).setCell (p := ⟨w.heap.size + 1, 4, none⟩) (.inr (by show w.heap.size ≤ w.heap.size + 1; omega)) (.int .i64 a4')).setCell (p := ⟨w.heap.size + 1, 5, none⟩) (.inr (by show w.heap.size ≤ w.heap.size + 1; omega)) (.int .i64 a5')).setCell (p := ⟨w.heap.size + 1, 6, none⟩) (.inr (by show w.heap.size ≤ w.heap.size + 1; omega)) (.int .i64 a6')).setCell (p := ⟨w.heap.size + 1, 7, none⟩) (.inr (by show w.heap.size ≤ w.heap.size + 1; omega)) (.int .i64 a7'))
      have HSE := kept hset
      have HKS := kept hks
      clear hset hks
      go_wp2
      generalize ((((((((wr.setCell ⟨w.heap.size + 1, 0, none⟩ (.int .i64 a0')).setCell ⟨w.heap.size + 1, 1, none⟩ (.int .i64 a1')).setCell ⟨w.heap.size + 1, 2, none⟩ (.int .i64 a2')).setCell ⟨w.heap.size + 1, 3, none⟩ (.int .i64 a3')).setCell ⟨w.heap.size + 1, 4, none⟩ (.int .i64 a4')).setCell ⟨w.heap.size + 1, 5, none⟩ (.int .i64 a5')).setCell ⟨w.heap.size + 1, 6, none⟩ (.int .i64 a6')).setCell ⟨w.heap.size + 1, 7, none⟩ (.int .i64 a7')) = WZ at *
      have hz : Blk WZ (w.heap.size + 1) 65 #[.int .i64 a0', .int .i64 a1', .int .i64 a2', .int .i64 a3', .int .i64 a4', .int .i64 a5', .int .i64 a6', .int .i64 a7'] := by have := HSE.out; simpa using this
      have z0 := hz.cell 0
      have z1 := hz.cell 1
      have z2 := hz.cell 2
      have z3 := hz.cell 3
      have z4 := hz.cell 4
      have z5 := hz.cell 5
      have z6 := hz.cell 6
      have z7 := hz.cell 7
      simp at z0 z1 z2 z3 z4 z5 z6 z7
      exact bodyPost_ret (v := .agg #[.int .i64 a0', .int .i64 a1', .int .i64 a2', .int .i64 a3', .int .i64 a4', .int .i64 a5', .int .i64 a6', .int .i64 a7']) (by simp [results, Tryz.results70, go_sem, z0, z1, z2, z3, z4, z5, z6, z7]) rfl ⟨by rw [HAA.out, HCV.out]; unfold cV; rw [hga0, hga1, hga2, hga3, hga4, hga5, hga6, hga7], HKS.out⟩
end Go.Proofs.YtjllbchfojonhaaGreatDoor
