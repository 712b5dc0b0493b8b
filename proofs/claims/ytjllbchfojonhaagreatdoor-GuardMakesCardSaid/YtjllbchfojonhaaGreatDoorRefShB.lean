/- The document's Shaped; contract. -/
import Derived.Test.YtjllbchfojonhaaGreatDoorRefShA
import Derived.Deep.CutBlock
import Derived.Deep.Cut
import Derived.Deep.CutRange
namespace Go.Proofs.YtjllbchfojonhaaGreatDoor
open Go.RowKit
set_option linter.unusedVariables false
set_option linter.unusedSimpArgs false
set_option maxRecDepth 100000 in
set_option maxHeartbeats 200000000 in
theorem refShaped_any0 (f : FuncM) (w : World) (ht : Tabs w) (hf : FuncAt w f) (hfew : FewP f) : Calls Tryz.prog 52 #[f.val] w fun e w' => e = .returned (.bool (refShapedB f)) ∧ Keeps w w' [] := by
 obtain ⟨a0, c0, a1, c1, a2, c2, e0, e1, e2, hval, h1, HF, HC0, HC1, HC2, HNV, HNP, HNB⟩ := fopen hf
 have HT := kept ht
 have HFN := kept hf.names
 have HFB := kept hfew.block
 rw [hval]
 have hnvF := hfew.nv
 have hnbF := hfew.nb
 have hnpF := hfew.np
 clear e0 e1 e2 hval h1 hf ht hfew
 generalize hRB : refShapedB f = RB at *
 have HRB := kept hRB
 clear hRB
 obtain ⟨HK, Bl⟩ := fbox w 26 #[.slice a0 f.nv c0, .slice a1 f.np c1, .slice a2 f.nb c2]
 obtain ⟨l0, l1, l2⟩ := Bl.out.c3
 simp at l0 l1 l2
 have hv5 : ¬ (512 : Int) < (f.nv : Int) := by omega
 have hb6 : ¬ (64 : Int) < (f.nb : Int) := by omega
 by_cases h8 : (8 : Int) < (f.np : Int)
 ·go_enter Tryz.func52, Tryz.ntmps52
  go_wp2
  go_ret
  exact ⟨ret_bool (by rw [← HRB.out]; exact (ref_no0 (by omega)).symm), HK.out⟩
 by_cases hpv : (f.nv : Int) < (f.np : Int)
 ·go_enter Tryz.func52, Tryz.ntmps52
  go_wp2
  go_ret
  exact ⟨ret_bool (by rw [← HRB.out]; exact (ref_no0 (by omega)).symm), HK.out⟩
 by_cases hb1 : (f.nb : Int) < 1
 ·go_enter Tryz.func52, Tryz.ntmps52
  go_wp2
  go_ret
  exact ⟨ret_bool (by rw [← HRB.out]; exact (ref_no0 (by omega)).symm), HK.out⟩
 have HC := kept (show f.nv ≤ 512 ∧ f.np ≤ 8 ∧ f.np ≤ f.nv ∧ 1 ≤ f.nb ∧ f.nb ≤ 64 by omega)
 go_enter Tryz.func52, Tryz.ntmps52
 go_wp2
 clear l0 l1 l2
 generalize (w.alloc (.cells #[.slice a0 f.nv c0, .slice a1 f.np c1, .slice a2 f.nb c2] 26)) = W0 at *
 have Bl_W0 := Bl
 have TW0 := HK
 clear HK
 have HK := kept (Keeps.refl W0 [])
 obtain ⟨l0, l1, l2⟩ := Bl.out.c3
 simp at l0 l1 l2
 go_loopw [57] (fun i wr => ∃ k : Nat, k ≤ f.np ∧ i = .int .i64 k ∧ Keeps W0 wr [] ∧ Hid (∀ j, j < k → (f.params.2[j]! == (j : Int)) = true)) (fun i _ => f.np - (intOf i).toNat)
 case atStart => exact ⟨0, Nat.zero_le _, rfl, HK.out, fun j hj => absurd hj (Nat.not_lt_zero _)⟩
 case round =>
  obtain ⟨k, hk, rfl, hr, A⟩ := hrel
  clear l0 l1 l2
  clear Bl HK
  have HK := kept hr
  have Bl := kept (Bl_W0.out.keep hr (by simp))
  clear hr
  obtain ⟨l0, l1, l2⟩ := Bl.out.c3
  simp at l0 l1 l2
  by_cases hlt : k < f.np
  ·have hltz : (k : Int) < (f.np : Int) := by omega
   obtain ⟨bb, off, rfl, hbl, hcell⟩ := HC1.out k (by rw [HNP.out]; exact hlt)
   have n0 := (TW0.out.and_then HK.out).cellOf (hcell 0 _ rfl)
   simp only [Nat.add_zero, Nat.mul_one] at n0
   clear hcell HC1
   generalize hz : f.params.2[k]! = z at *
   have HZ := kept hz
   clear hz
   have hne : (z != (k : Int)) = !(z == (k : Int)) := rfl
   cases hq : (z == (k : Int)) with
   | false =>
    rw [hq] at hne
    go_wp2
    go_ret
    exact ⟨ret_bool (by rw [← HRB.out]; exact (ref_no1 hlt (by rw [HZ.out]; exact hq)).symm), (TW0.out.and_then HK.out)⟩
   | true =>
    rw [hq] at hne
    go_wp2
    go_roundw
    case rel =>
     refine ⟨k + 1, by omega, by go_num, HK.out, (show Hid _ from fun q hq2 => ?_)⟩
     by_cases e : q = k
     ·subst e; rw [HZ.out]; exact hq
     ·exact A.out q (by omega)
    case measure => simp [intOf]; omega
  ·have hltz : ¬ (k : Int) < (f.np : Int) := by omega
   obtain rfl : f.np = k := by omega
   have P1 := A
   go_wp2
   clear A hltz hlt hk
   go_loopw [69] (fun i wr => ∃ k : Nat, k ≤ f.nv ∧ i = .int .i64 k ∧ Keeps W0 wr [] ∧ Hid (∀ j, j < k → refVarB f j = true)) (fun i _ => f.nv - (intOf i).toNat)
   case atStart => exact ⟨0, Nat.zero_le _, rfl, HK.out, fun j hj => absurd hj (Nat.not_lt_zero _)⟩
   case round =>
    obtain ⟨k, hk, rfl, hr, A⟩ := hrel
    obtain ⟨wo, hwo⟩ : ∃ wo : World, wo = wr := ⟨_, rfl⟩
    subst hwo
    clear l0 l1 l2
    clear Bl HK
    have HK := kept hr
    have Bl := kept (Bl_W0.out.keep hr (by simp))
    clear hr
    obtain ⟨l0, l1, l2⟩ := Bl.out.c3
    simp at l0 l1 l2
    by_cases hlt : k < f.nv
    ·as_aux_lemma =>
      have hltz : (k : Int) < (f.nv : Int) := by omega
      obtain ⟨bb, off, rfl, hbl, hcell⟩ := HC0.out k (by rw [HNV.out]; exact hlt)
      have n0 := (TW0.out.and_then HK.out).cellOf (hcell 0 _ rfl)
      have n1 := (TW0.out.and_then HK.out).cellOf (hcell 1 _ rfl)
      simp only [Nat.add_zero] at n0
      clear hcell
      have hsz := HFN.out _ (bang_mem (l := f.vars.2) (k := k) (by rw [HNV.out]; exact hlt))
      generalize hy : f.vars.2[k]! = y at *
      have HY := kept hy
      clear hy
      have HTy := kept (show typeB y = (decide (0 ≤ y.type) && decide (y.type ≤ 2)) from rfl)
      generalize hyn : y.name = yn at *
      have HYN := kept hyn
      generalize hyt : y.type = yt at *
      clear hyn hyt
      have CN := kept (fun w h => refName_any yn w h (by unfold maxLen at hsz; omega))
      have HNm := kept (show nameB yn = nameB yn from rfl)
      clear l0 l1 l2
      have bmx := Blk.new wo 83 #[.string yn, .int .i64 yt]
      have k3 : Keeps wo (wo.alloc (.cells #[.string yn, .int .i64 yt] 83)) [] := (Keeps.refl wo []).alloc _
      replace Bl := kept (Bl.out.keep k3 (by simp))
      replace HK := kept (HK.out.and_then k3)
      clear k3
      have Bm := kept bmx
      clear bmx
      obtain ⟨l0, l1, l2⟩ := Bl.out.c3
      obtain ⟨m0, m1⟩ := Bm.out.c2
      simp at l0 l1 l2 m0 m1
      generalize hNB : nameB yn = NB at *
      have HNB1 := kept hNB
      clear hNB HNm
      cases NB with
      | false =>
       go_wp2_with (first | (go_at_call 83; refine (CN.out _ (HT.out.keep (TW0.out.and_then HK.out))).mono ?_; rintro e w5 ⟨rfl, k3⟩; clear l0 l1 l2 m0 m1; replace Bl := kept (Bl.out.keep k3 (by simp)); replace Bm := kept (Bm.out.keep k3 (by simp)); replace HK := kept (HK.out.and_then k3); obtain ⟨l0, l1, l2⟩ := Bl.out.c3; obtain ⟨m0, m1⟩ := Bm.out.c2; simp at l0 l1 l2 m0 m1; clear k3))
       go_ret
       exact ⟨ret_bool (by rw [← HRB.out]; exact (ref_no2 hlt (var_no1 HY.out (by rw [HYN.out]; exact HNB1.out))).symm), (TW0.out.and_then HK.out)⟩
      | true =>
       as_aux_lemma =>
        by_cases ht0 : yt < 0
        ·go_wp2_with (first | (go_at_call 83; refine (CN.out _ (HT.out.keep (TW0.out.and_then HK.out))).mono ?_; rintro e w5 ⟨rfl, k3⟩; clear l0 l1 l2 m0 m1; replace Bl := kept (Bl.out.keep k3 (by simp)); replace Bm := kept (Bm.out.keep k3 (by simp)); replace HK := kept (HK.out.and_then k3); obtain ⟨l0, l1, l2⟩ := Bl.out.c3; obtain ⟨m0, m1⟩ := Bm.out.c2; simp at l0 l1 l2 m0 m1; clear k3))
         go_ret
         exact ⟨ret_bool (by rw [← HRB.out]; exact (ref_no2 hlt (var_no2 HY.out (by rw [HTy.out, decide_eq_false (by omega)]; rfl))).symm), (TW0.out.and_then HK.out)⟩
        by_cases ht2 : 2 < yt
        ·go_wp2_with (first | (go_at_call 83; refine (CN.out _ (HT.out.keep (TW0.out.and_then HK.out))).mono ?_; rintro e w5 ⟨rfl, k3⟩; clear l0 l1 l2 m0 m1; replace Bl := kept (Bl.out.keep k3 (by simp)); replace Bm := kept (Bm.out.keep k3 (by simp)); replace HK := kept (HK.out.and_then k3); obtain ⟨l0, l1, l2⟩ := Bl.out.c3; obtain ⟨m0, m1⟩ := Bm.out.c2; simp at l0 l1 l2 m0 m1; clear k3))
         go_ret
         exact ⟨ret_bool (by rw [← HRB.out]; exact (ref_no2 hlt (var_no2 HY.out (by rw [HTy.out, decide_eq_false (show ¬ yt ≤ 2 by omega)]; simp))).symm), (TW0.out.and_then HK.out)⟩
        have HTT := kept (show typeB y = true by rw [HTy.out, decide_eq_true (by omega), decide_eq_true (by omega)]; rfl)
        go_wp2_with (first | (go_at_call 83; refine (CN.out _ (HT.out.keep (TW0.out.and_then HK.out))).mono ?_; rintro e w5 ⟨rfl, k3⟩; clear l0 l1 l2 m0 m1; replace Bl := kept (Bl.out.keep k3 (by simp)); replace Bm := kept (Bm.out.keep k3 (by simp)); replace HK := kept (HK.out.and_then k3); obtain ⟨l0, l1, l2⟩ := Bl.out.c3; obtain ⟨m0, m1⟩ := Bm.out.c2; simp at l0 l1 l2 m0 m1; clear k3))
        clear n0 n1
        clear l0 l1 l2 m0 m1
        have Bl_w5 := Bl
        have Bm_w5 := Bm
        have Tw5 := HK
        clear HK
        have HK := kept (Keeps.refl w5 [])
        obtain ⟨l0, l1, l2⟩ := Bl.out.c3
        obtain ⟨m0, m1⟩ := Bm.out.c2
        simp at l0 l1 l2 m0 m1
        go_loopw [89] (fun i wr => ∃ j : Nat, j ≤ k ∧ i = .int .i64 j ∧ Keeps w5 wr [] ∧ Hid (∀ q, q < j → ¬ f.vars.2[q]!.name = yn)) (fun i _ => k - (intOf i).toNat)
        case atStart => exact ⟨0, Nat.zero_le _, rfl, Keeps.refl _ _, fun j hj => absurd hj (Nat.not_lt_zero _)⟩
        case round =>
         obtain ⟨j, hj, rfl, hr, A3⟩ := hrel
         clear l0 l1 l2 m0 m1
         clear Bl Bm HK
         have HK := kept hr
         have Bl := kept (Bl_w5.out.keep hr (by simp))
         have Bm := kept (Bm_w5.out.keep hr (by simp))
         clear hr
         obtain ⟨l0, l1, l2⟩ := Bl.out.c3
         obtain ⟨m0, m1⟩ := Bm.out.c2
         simp at l0 l1 l2 m0 m1
         by_cases hltj : j < k
         ·have hltjz : (j : Int) < (k : Int) := by omega
          have hjv : (j : Int) < (f.nv : Int) := by omega
          obtain ⟨b2, off2, e2, -, hcj⟩ := HC0.out j (by rw [HNV.out]; omega)
          simp only [Option.some.injEq, Addr.mk.injEq, and_true] at e2
          obtain ⟨rfl, rfl⟩ := e2
          have N0 := kept (hcj 0 _ rfl)
          rw [Nat.add_zero] at N0
          clear hcj
          have HNj := kept (show f.vars.2[j]!.name = f.vars.2[j]!.name from rfl)
          generalize hjn : f.vars.2[j]!.name = jn at *
          have HJN := kept hjn
          clear hjn HNj
          have n0 := (TW0.out.and_then (Tw5.out.and_then HK.out)).cellOf N0.out
          by_cases hq : jn = yn
          ·have hqq : (jn.toList == yn.toList) = true := by rw [hq]; exact beq_self_eq_true _
           go_wp2_with fail
           refine wp_region_held_drew (S := (fun w' => w'.cell? ⟨w.heap.size, 0, none⟩ = some (.slice (some ⟨bb, off, none⟩) f.nv c0) ∧ w'.cell? ⟨w.heap.size, 1, none⟩ = some (.slice a1 f.np c1) ∧ w'.cell? ⟨w.heap.size, 2, none⟩ = some (.slice a2 f.nb c2) ∧ w'.cell? ⟨wo.heap.size, 0, none⟩ = some (.string yn) ∧ w'.cell? ⟨wo.heap.size, 1, none⟩ = some (.int .i64 yt) ∧ w'.cell? ⟨bb, off + j * 2, none⟩ = some (.string jn))) (by kernel_rfl) ?vahSs (fun hHeld => ?_)
           case vahSs => exact ⟨l0, l1, l2, m0, m1, n0⟩
           clear l0 l1 l2 m0 m1 n0
           replace Bl := kept (Bl.out.keep ((Keeps.refl _ []).drew) (by simp))
           replace Bm := kept (Bm.out.keep ((Keeps.refl _ []).drew) (by simp))
           replace HK := kept (HK.out.drew)
           generalize World.drew _ = X0 at *
           obtain ⟨l0, l1, l2⟩ := Bl.out.c3
           obtain ⟨m0, m1⟩ := Bm.out.c2
           simp at l0 l1 l2 m0 m1
           have n0 := (TW0.out.and_then (Tw5.out.and_then HK.out)).cellOf N0.out
           refine tp 0 92 rfl hHeld ?_
           refine tp 1 93 rfl hHeld ?_
           refine tp 2 94 rfl hHeld ?_
           refine tp 3 95 rfl hHeld ?_
           refine tp 4 96 rfl hHeld ?_
           refine tp 5 97 rfl hHeld ?_
           refine tp 6 98 rfl hHeld ?_
           refine tp 7 99 rfl hHeld ?_
           refine tp 8 100 rfl hHeld ?_
           refine wpAnyH_done (by kernel_rfl) ?_ _
           clear hHeld
           go_wp2
           go_ret
           exact ⟨ret_bool (by rw [← HRB.out]; exact (ref_no2 hlt (var_no3 HY.out hltj (by rw [HJN.out, HYN.out]; exact hq))).symm), (TW0.out.and_then (Tw5.out.and_then HK.out))⟩
          ·have hqq : (jn.toList == yn.toList) = false := str_ne hq
           go_wp2_with fail
           refine wp_region_held_drew (S := (fun w' => w'.cell? ⟨w.heap.size, 0, none⟩ = some (.slice (some ⟨bb, off, none⟩) f.nv c0) ∧ w'.cell? ⟨w.heap.size, 1, none⟩ = some (.slice a1 f.np c1) ∧ w'.cell? ⟨w.heap.size, 2, none⟩ = some (.slice a2 f.nb c2) ∧ w'.cell? ⟨wo.heap.size, 0, none⟩ = some (.string yn) ∧ w'.cell? ⟨wo.heap.size, 1, none⟩ = some (.int .i64 yt) ∧ w'.cell? ⟨bb, off + j * 2, none⟩ = some (.string jn))) (by kernel_rfl) ?vbhSs (fun hHeld => ?_)
           case vbhSs => exact ⟨l0, l1, l2, m0, m1, n0⟩
           clear l0 l1 l2 m0 m1 n0
           replace Bl := kept (Bl.out.keep ((Keeps.refl _ []).drew) (by simp))
           replace Bm := kept (Bm.out.keep ((Keeps.refl _ []).drew) (by simp))
           replace HK := kept (HK.out.drew)
           generalize World.drew _ = X0 at *
           obtain ⟨l0, l1, l2⟩ := Bl.out.c3
           obtain ⟨m0, m1⟩ := Bm.out.c2
           simp at l0 l1 l2 m0 m1
           have n0 := (TW0.out.and_then (Tw5.out.and_then HK.out)).cellOf N0.out
           refine tp 0 92 rfl hHeld ?_
           refine tp 1 93 rfl hHeld ?_
           refine tp 2 94 rfl hHeld ?_
           refine tp 3 95 rfl hHeld ?_
           refine tp 4 96 rfl hHeld ?_
           refine tp 5 97 rfl hHeld ?_
           refine tp 6 98 rfl hHeld ?_
           refine tp 7 99 rfl hHeld ?_
           refine tp 8 100 rfl hHeld ?_
           refine wpAnyH_done (by kernel_rfl) ?_ _
           clear hHeld
           go_wp2
           go_roundw
           case rel =>
            refine ⟨j + 1, by omega, by go_num, HK.out, (show Hid _ from fun q hq2 => ?_)⟩
            by_cases e : q = j
            ·subst e; rw [HJN.out]; exact hq
            ·exact A3.out q (by omega)
           case measure => simp [intOf]; omega
         ·have hltjz : ¬ (j : Int) < (k : Int) := by omega
          obtain rfl : k = j := by omega
          go_wp2
          go_roundw
          case rel =>
           refine ⟨k + 1, by omega, by go_num, (Tw5.out.and_then HK.out), (show Hid _ from fun q hq2 => ?_)⟩
           by_cases e : q = k
           ·subst e; exact var_yes HY.out (by rw [HYN.out]; exact HNB1.out) HTT.out (fun j hj => by rw [HYN.out]; exact A3.out j hj)
           ·exact A.out q (by omega)
          case measure => simp [intOf]; omega
    ·as_aux_lemma =>
      have hltz : ¬ (k : Int) < (f.nv : Int) := by omega
      obtain rfl : f.nv = k := by omega
      have P2 := A
      go_wp2
      clear A hltz hlt hk
      go_loopw [10, 109] (fun s i wr => ∃ k : Nat, k ≤ f.nb ∧ i = .int .i64 k ∧ s = .int .i64 (bsum (f.blocks.2.take k)) ∧ Keeps W0 wr [] ∧ bsum (f.blocks.2.take k) ≤ 1024 ∧ Hid (∀ j, j < k → refBlockB f j = true)) (fun _ i _ => f.nb - (intOf i).toNat)
      case atStart => exact ⟨0, Nat.zero_le _, rfl, rfl, HK.out, by simp [bsum], fun j hj => absurd hj (Nat.not_lt_zero _)⟩
      case round =>
       obtain ⟨k, hk, rfl, rfl, hr, hS, A⟩ := hrel
       obtain ⟨wb, hwb⟩ : ∃ wb : World, wb = wr := ⟨_, rfl⟩
       subst hwb
       clear l0 l1 l2
       clear Bl HK
       have HK := kept hr
       have Bl := kept (Bl_W0.out.keep hr (by simp))
       clear hr
       obtain ⟨l0, l1, l2⟩ := Bl.out.c3
       simp at l0 l1 l2
       by_cases hlt : k < f.nb
       ·as_aux_lemma =>
         have hltz : (k : Int) < (f.nb : Int) := by omega
         obtain ⟨bb, off, rfl, hbl, hcell⟩ := HC2.out k (by rw [HNB.out]; exact hlt)
         have n0 := (TW0.out.and_then HK.out).cellOf (hcell 0 _ rfl)
         have n1 := (TW0.out.and_then HK.out).cellOf (hcell 1 _ rfl)
         have n2 := (TW0.out.and_then HK.out).cellOf (hcell 2 _ rfl)
         have n3 := (TW0.out.and_then HK.out).cellOf (hcell 3 _ rfl)
         have n4 := (TW0.out.and_then HK.out).cellOf (hcell 4 _ rfl)
         have n5 := (TW0.out.and_then HK.out).cellOf (hcell 5 _ rfl)
         have n6 := (TW0.out.and_then HK.out).cellOf (hcell 6 _ rfl)
         simp only [Nat.add_zero] at n0
         clear hcell
         have hyb := (HF.out.keep (TW0.out.and_then HK.out)).block _ (bang_mem (l := f.blocks.2) (k := k) (by rw [HNB.out]; exact hlt))
         have hfb := HFB.out _ (bang_mem (l := f.blocks.2) (k := k) (by rw [HNB.out]; exact hlt))
         have HSn := kept (bsum_snoc f.blocks.2 k (by rw [HNB.out]; exact hlt))
         generalize hy : f.blocks.2[k]! = y at *
         have HY := kept hy
         clear hy
         obtain ⟨pa, pc, pe, -, -, hpc⟩ := hyb.phis.open_
         obtain ⟨qa, qc, qe, -, -, hqc⟩ := hyb.insts.open_
         have HYB := kept hyb
         rw [pe] at n1
         rw [qe] at n2
         have HPC := kept hpc
         have HQC := kept hqc
         have hsz := hyb.size
         clear hyb pe qe hpc hqc
         generalize hPN : y.phis.2.length = pn at *
         generalize hQN : y.insts.2.length = qn at *
         have HPN := kept hPN
         have HQN := kept hQN
         clear hPN hQN
         have hfb1 := hfb.1
         have hfb2 := hfb.2
         clear hfb
         generalize hyn : y.name = yn at *
         have Hyn := kept hyn
         clear hyn
         generalize hyk : y.kind = yk at *
         have Hyk := kept hyk
         clear hyk
         generalize hyv : y.var = yv at *
         have Hyv := kept hyv
         clear hyv
         generalize hy0 : y.to0 = y0 at *
         have Hy0 := kept hy0
         clear hy0
         generalize hy1 : y.to1 = y1 at *
         have Hy1 := kept hy1
         clear hy1
         have CN := kept (fun w h => refName_any yn w h (by unfold maxLen at hsz; omega))
         generalize hNB : nameB yn = NB at *
         have HNB1 := kept hNB
         clear hNB
         generalize hBS : bsum (f.blocks.2.take k) = BS at *
         have HBS := kept hBS
         clear hBS
         clear l0 l1 l2
         have bmx := Blk.new wb 38 #[.string yn, .slice pa pn pc, .slice qa qn qc, .int .i64 yk, .int .i64 yv, .int .i64 y0, .int .i64 y1]
         have k3 : Keeps wb (wb.alloc (.cells #[.string yn, .slice pa pn pc, .slice qa qn qc, .int .i64 yk, .int .i64 yv, .int .i64 y0, .int .i64 y1] 38)) [] := (Keeps.refl wb []).alloc _
         replace Bl := kept (Bl.out.keep k3 (by simp))
         replace HK := kept (HK.out.and_then k3)
         clear k3
         have Bm := kept bmx
         clear bmx
         obtain ⟨l0, l1, l2⟩ := Bl.out.c3
         obtain ⟨m0, m1, m2, m3, m4, m5, m6⟩ := Bm.out.c7
         simp at l0 l1 l2 m0 m1 m2 m3 m4 m5 m6
         cases NB with
         | false =>
          go_wp2_with (first | (go_at_call 83; refine (CN.out _ (HT.out.keep (TW0.out.and_then HK.out))).mono ?_; rintro e w5 ⟨rfl, k3⟩; clear l0 l1 l2 m0 m1 m2 m3 m4 m5 m6; replace Bl := kept (Bl.out.keep k3 (by simp)); replace Bm := kept (Bm.out.keep k3 (by simp)); replace HK := kept (HK.out.and_then k3); obtain ⟨l0, l1, l2⟩ := Bl.out.c3; obtain ⟨m0, m1, m2, m3, m4, m5, m6⟩ := Bm.out.c7; simp at l0 l1 l2 m0 m1 m2 m3 m4 m5 m6; clear k3))
          go_ret
          exact ⟨ret_bool (by rw [← HRB.out]; exact (ref_no3 hlt (blk_no1 HY.out (by rw [Hyn.out]; exact HNB1.out))).symm), (TW0.out.and_then HK.out)⟩
         | true =>
          as_aux_lemma =>
           have KB0 : Hid (Keeps wb (wb.alloc (.cells #[.string yn, .slice pa pn pc, .slice qa qn qc, .int .i64 yk, .int .i64 yv, .int .i64 y0, .int .i64 y1] 38)) []) := (Keeps.refl wb []).alloc _
           go_wp2_with (first | (go_at_call 83; refine (CN.out _ (HT.out.keep (TW0.out.and_then HK.out))).mono ?_; rintro e w5 ⟨rfl, k3⟩; clear l0 l1 l2 m0 m1 m2 m3 m4 m5 m6; replace Bl := kept (Bl.out.keep k3 (by simp)); replace Bm := kept (Bm.out.keep k3 (by simp)); replace HK := kept (HK.out.and_then k3); obtain ⟨l0, l1, l2⟩ := Bl.out.c3; obtain ⟨m0, m1, m2, m3, m4, m5, m6⟩ := Bm.out.c7; simp at l0 l1 l2 m0 m1 m2 m3 m4 m5 m6; have KB := kept (KB0.out.and_then k3); clear k3))
           clear n0 n1 n2 n3 n4 n5 n6
           clear l0 l1 l2 m0 m1 m2 m3 m4 m5 m6
           have Bl_w5 := Bl
           have Bm_w5 := Bm
           have Tw5 := HK
           clear HK
           have HK := kept (Keeps.refl w5 [])
           obtain ⟨l0, l1, l2⟩ := Bl.out.c3
           obtain ⟨m0, m1, m2, m3, m4, m5, m6⟩ := Bm.out.c7
           simp at l0 l1 l2 m0 m1 m2 m3 m4 m5 m6
           go_loopw [119] (fun i wr => ∃ j : Nat, j ≤ k ∧ i = .int .i64 j ∧ Keeps w5 wr [] ∧ Hid (∀ q, q < j → ¬ f.blocks.2[q]!.name = yn)) (fun i _ => k - (intOf i).toNat)
           case atStart => exact ⟨0, Nat.zero_le _, rfl, Keeps.refl _ _, fun j hj => absurd hj (Nat.not_lt_zero _)⟩
           case round =>
            obtain ⟨j, hj, rfl, hr, A3⟩ := hrel
            obtain ⟨wc, hwc⟩ : ∃ wc : World, wc = wr := ⟨_, rfl⟩
            subst hwc
            clear l0 l1 l2 m0 m1 m2 m3 m4 m5 m6
            clear Bl Bm HK
            have HK := kept hr
            have Bl := kept (Bl_w5.out.keep hr (by simp))
            have Bm := kept (Bm_w5.out.keep hr (by simp))
            clear hr
            obtain ⟨l0, l1, l2⟩ := Bl.out.c3
            obtain ⟨m0, m1, m2, m3, m4, m5, m6⟩ := Bm.out.c7
            simp at l0 l1 l2 m0 m1 m2 m3 m4 m5 m6
            by_cases hltj : j < k
            ·have hltjz : (j : Int) < (k : Int) := by omega
             have hjv : (j : Int) < (f.nb : Int) := by omega
             obtain ⟨b2, off2, e2, -, hcj⟩ := HC2.out j (by rw [HNB.out]; omega)
             simp only [Option.some.injEq, Addr.mk.injEq, and_true] at e2
             obtain ⟨rfl, rfl⟩ := e2
             have N0 := kept (hcj 0 _ rfl)
             rw [Nat.add_zero] at N0
             clear hcj
             generalize hjn : f.blocks.2[j]!.name = jn at *
             have HJN := kept hjn
             clear hjn
             have n0 := (TW0.out.and_then (Tw5.out.and_then HK.out)).cellOf N0.out
             by_cases hq : jn = yn
             ·have hqq : (jn.toList == yn.toList) = true := by rw [hq]; exact beq_self_eq_true _
              go_wp2_with fail
              refine wp_region_held_drew (S := (fun w' => w'.cell? ⟨w.heap.size, 0, none⟩ = some (.slice a0 f.nv c0) ∧ w'.cell? ⟨w.heap.size, 1, none⟩ = some (.slice a1 f.np c1) ∧ w'.cell? ⟨w.heap.size, 2, none⟩ = some (.slice (some ⟨bb, off, none⟩) f.nb c2) ∧ w'.cell? ⟨wb.heap.size, 0, none⟩ = some (.string yn) ∧ w'.cell? ⟨wb.heap.size, 1, none⟩ = some (.slice pa pn pc) ∧ w'.cell? ⟨wb.heap.size, 2, none⟩ = some (.slice qa qn qc) ∧ w'.cell? ⟨wb.heap.size, 3, none⟩ = some (.int .i64 yk) ∧ w'.cell? ⟨wb.heap.size, 4, none⟩ = some (.int .i64 yv) ∧ w'.cell? ⟨wb.heap.size, 5, none⟩ = some (.int .i64 y0) ∧ w'.cell? ⟨wb.heap.size, 6, none⟩ = some (.int .i64 y1) ∧ w'.cell? ⟨bb, off + j * 7, none⟩ = some (.string jn))) (by kernel_rfl) ?vchSs (fun hHeld => ?_)
              case vchSs => exact ⟨l0, l1, l2, m0, m1, m2, m3, m4, m5, m6, n0⟩
              clear l0 l1 l2 m0 m1 m2 m3 m4 m5 m6 n0
              replace Bl := kept (Bl.out.keep ((Keeps.refl _ []).drew) (by simp))
              replace Bm := kept (Bm.out.keep ((Keeps.refl _ []).drew) (by simp))
              replace HK := kept (HK.out.drew)
              generalize World.drew _ = X0 at *
              obtain ⟨l0, l1, l2⟩ := Bl.out.c3
              obtain ⟨m0, m1, m2, m3, m4, m5, m6⟩ := Bm.out.c7
              simp at l0 l1 l2 m0 m1 m2 m3 m4 m5 m6
              have n0 := (TW0.out.and_then (Tw5.out.and_then HK.out)).cellOf N0.out
              refine tp 0 122 rfl hHeld ?_
              refine tp 1 123 rfl hHeld ?_
              refine tp 2 124 rfl hHeld ?_
              refine tp 3 125 rfl hHeld ?_
              refine tp 4 126 rfl hHeld ?_
              refine tp 5 127 rfl hHeld ?_
              refine tp 6 128 rfl hHeld ?_
              refine tp 7 129 rfl hHeld ?_
              refine tp 8 130 rfl hHeld ?_
              refine wpAnyH_done (by kernel_rfl) ?_ _
              clear hHeld
              go_wp2
              go_ret
              exact ⟨ret_bool (by rw [← HRB.out]; exact (ref_no3 hlt (blk_no2 HY.out hltj (by rw [HJN.out, Hyn.out]; exact hq))).symm), (TW0.out.and_then (Tw5.out.and_then HK.out))⟩
             ·have hqq : (jn.toList == yn.toList) = false := str_ne hq
              go_wp2_with fail
              refine wp_region_held_drew (S := (fun w' => w'.cell? ⟨w.heap.size, 0, none⟩ = some (.slice a0 f.nv c0) ∧ w'.cell? ⟨w.heap.size, 1, none⟩ = some (.slice a1 f.np c1) ∧ w'.cell? ⟨w.heap.size, 2, none⟩ = some (.slice (some ⟨bb, off, none⟩) f.nb c2) ∧ w'.cell? ⟨wb.heap.size, 0, none⟩ = some (.string yn) ∧ w'.cell? ⟨wb.heap.size, 1, none⟩ = some (.slice pa pn pc) ∧ w'.cell? ⟨wb.heap.size, 2, none⟩ = some (.slice qa qn qc) ∧ w'.cell? ⟨wb.heap.size, 3, none⟩ = some (.int .i64 yk) ∧ w'.cell? ⟨wb.heap.size, 4, none⟩ = some (.int .i64 yv) ∧ w'.cell? ⟨wb.heap.size, 5, none⟩ = some (.int .i64 y0) ∧ w'.cell? ⟨wb.heap.size, 6, none⟩ = some (.int .i64 y1) ∧ w'.cell? ⟨bb, off + j * 7, none⟩ = some (.string jn))) (by kernel_rfl) ?vdhSs (fun hHeld => ?_)
              case vdhSs => exact ⟨l0, l1, l2, m0, m1, m2, m3, m4, m5, m6, n0⟩
              clear l0 l1 l2 m0 m1 m2 m3 m4 m5 m6 n0
              replace Bl := kept (Bl.out.keep ((Keeps.refl _ []).drew) (by simp))
              replace Bm := kept (Bm.out.keep ((Keeps.refl _ []).drew) (by simp))
              replace HK := kept (HK.out.drew)
              generalize World.drew _ = X0 at *
              obtain ⟨l0, l1, l2⟩ := Bl.out.c3
              obtain ⟨m0, m1, m2, m3, m4, m5, m6⟩ := Bm.out.c7
              simp at l0 l1 l2 m0 m1 m2 m3 m4 m5 m6
              have n0 := (TW0.out.and_then (Tw5.out.and_then HK.out)).cellOf N0.out
              refine tp 0 122 rfl hHeld ?_
              refine tp 1 123 rfl hHeld ?_
              refine tp 2 124 rfl hHeld ?_
              refine tp 3 125 rfl hHeld ?_
              refine tp 4 126 rfl hHeld ?_
              refine tp 5 127 rfl hHeld ?_
              refine tp 6 128 rfl hHeld ?_
              refine tp 7 129 rfl hHeld ?_
              refine tp 8 130 rfl hHeld ?_
              refine wpAnyH_done (by kernel_rfl) ?_ _
              clear hHeld
              go_wp2
              go_roundw
              case rel =>
               refine ⟨j + 1, by omega, by go_num, HK.out, (show Hid _ from fun q hq2 => ?_)⟩
               by_cases e : q = j
               ·subst e; rw [HJN.out]; exact hq
               ·exact A3.out q (by omega)
              case measure => simp [intOf]; omega
            ·as_aux_lemma =>
              have hltjz : ¬ (j : Int) < (k : Int) := by omega
              obtain rfl : k = j := by omega
              have P5 := A3
              by_cases hsum : (1024 : Int) < ((BS + pn + qn : Nat) : Int)
              ·go_wp2
               go_ret
               exact ⟨ret_bool (by rw [← HRB.out]; exact (ref_no3 hlt (blk_no3 (by rw [HSn.out]; omega))).symm), (TW0.out.and_then (Tw5.out.and_then HK.out))⟩
              go_wp2
              clear A3 hltjz hltj hj
              go_loopw [146] (fun i wr => ∃ j : Nat, j ≤ pn ∧ i = .int .i64 j ∧ Keeps w5 wr [] ∧ Hid (∀ q, q < j → phiB f y.phis.2[q]! = true)) (fun i _ => pn - (intOf i).toNat)
              case atStart => exact ⟨0, Nat.zero_le _, rfl, HK.out, fun j hj => absurd hj (Nat.not_lt_zero _)⟩
              case round =>
               obtain ⟨j, hj, rfl, hr, A3⟩ := hrel
               obtain ⟨wd, hwd⟩ : ∃ wd : World, wd = wr := ⟨_, rfl⟩
               subst hwd
               clear l0 l1 l2 m0 m1 m2 m3 m4 m5 m6
               clear Bl Bm HK
               have HK := kept hr
               have Bl := kept (Bl_w5.out.keep hr (by simp))
               have Bm := kept (Bm_w5.out.keep hr (by simp))
               clear hr
               obtain ⟨l0, l1, l2⟩ := Bl.out.c3
               obtain ⟨m0, m1, m2, m3, m4, m5, m6⟩ := Bm.out.c7
               simp at l0 l1 l2 m0 m1 m2 m3 m4 m5 m6
               by_cases hltj : j < pn
               ·as_aux_lemma =>
                 have hltjz : (j : Int) < (pn : Int) := by omega
                 obtain ⟨pb, po, rfl, hpb, hpcell⟩ := HPC.out j hltj
                 have n0 := (KB.out.and_then HK.out).cellOf (hpcell 0 _ rfl)
                 have n1 := (KB.out.and_then HK.out).cellOf (hpcell 1 _ rfl)
                 have n2 := (KB.out.and_then HK.out).cellOf (hpcell 2 _ rfl)
                 simp only [Nat.add_zero] at n0
                 have hpa := (HYB.out.phi _ (bang_mem (l := y.phis.2) (k := j) (by rw [HPN.out]; exact hltj))).keep (KB.out.and_then HK.out)
                 clear hpcell
                 generalize hp : y.phis.2[j]! = p at *
                 have HP := kept hp
                 clear hp
                 obtain ⟨u1, v1, e1, hle9, hm1, hz1⟩ := IntsAt.open_ hpa.1
                 obtain ⟨u2, v2, e2, -, hm2, hz2⟩ := IntsAt.open_ hpa.2
                 rw [e1] at n1
                 rw [e2] at n2
                 have hpb9 : p.args.2.length ≤ 9223372036854775807 := by unfold maxLen at hm1; omega
                 have HZ1 := kept hz1
                 have HZ2 := kept hz2
                 clear e1 e2 hpa hz1 hz2 hle9
                 generalize hPA : p.args.2.length = pna at *
                 generalize hPF : p.froms.2.length = pnf at *
                 have HPA := kept hPA
                 have HPF := kept hPF
                 clear hPA hPF
                 have CD := kept (fun w => in_any p.dst f.nv w)
                 generalize hdd : p.dst = pdst at *
                 have HDD := kept hdd
                 clear hdd
                 generalize hDI : inB pdst f.nv = DI at *
                 have HDI := kept hDI
                 clear hDI
                 clear l0 l1 l2 m0 m1 m2 m3 m4 m5 m6
                 have bmx := Blk.new wd 95 #[.int .i64 pdst, .slice u1 pna v1, .slice u2 pnf v2]
                 have k3 : Keeps wd (wd.alloc (.cells #[.int .i64 pdst, .slice u1 pna v1, .slice u2 pnf v2] 95)) [] := (Keeps.refl wd []).alloc _
                 replace Bl := kept (Bl.out.keep k3 (by simp))
                 replace Bm := kept (Bm.out.keep k3 (by simp))
                 replace HK := kept (HK.out.and_then k3)
                 clear k3
                 have Bq := kept bmx
                 clear bmx
                 obtain ⟨l0, l1, l2⟩ := Bl.out.c3
                 obtain ⟨m0, m1, m2, m3, m4, m5, m6⟩ := Bm.out.c7
                 obtain ⟨q0, q1, q2⟩ := Bq.out.c3
                 simp at l0 l1 l2 m0 m1 m2 m3 m4 m5 m6 q0 q1 q2
                 cases DI with
                 | false =>
                  go_wp2_with (first | (go_at_call 84; refine (CD.out _).mono ?_; rintro e w3 ⟨rfl, rfl⟩))
                  go_ret
                  exact ⟨ret_bool (by rw [← HRB.out]; exact (ref_no3 hlt (blk_no4 HY.out (block_no1 (by rw [HPN.out]; exact hltj) (by rw [HP.out]; exact phi_no1 (by rw [HDD.out]; exact HDI.out))))).symm), (TW0.out.and_then (Tw5.out.and_then HK.out))⟩
                 | true =>
                  by_cases hle : pna = pnf
                  ·subst hle
                   have hne : ((pna : Int) != (pna : Int)) = false := by simp
                   by_cases h1l : (pna : Int) < 1
                   ·go_wp2_with (first | (go_at_call 84; refine (CD.out _).mono ?_; rintro e w3 ⟨rfl, rfl⟩))
                    go_ret
                    exact ⟨ret_bool (by rw [← HRB.out]; exact (ref_no3 hlt (blk_no4 HY.out (block_no1 (by rw [HPN.out]; exact hltj) (by rw [HP.out]; exact phi_no3 (by rw [HPA.out]; omega))))).symm), (TW0.out.and_then (Tw5.out.and_then HK.out))⟩
                   go_wp2_with (first | (go_at_call 84; refine (CD.out _).mono ?_; rintro e w3 ⟨rfl, rfl⟩))
                   clear n0 n1 n2
                   have TPW : Hid (Keeps wd (wd.alloc (.cells #[.int .i64 pdst, .slice u1 pna v1, .slice u2 pna v2] 95)) []) := (Keeps.refl wd []).alloc _
                   clear l0 l1 l2 m0 m1 m2 m3 m4 m5 m6 q0 q1 q2
                   generalize wd.alloc (.cells #[.int .i64 pdst, .slice u1 pna v1, .slice u2 pna v2] 95) = WP at *
                   have Bl_WP := Bl
                   have Bm_WP := Bm
                   have Bq_WP := Bq
                   have TWP := HK
                   clear HK
                   have HK := kept (Keeps.refl WP [])
                   obtain ⟨l0, l1, l2⟩ := Bl.out.c3
                   obtain ⟨m0, m1, m2, m3, m4, m5, m6⟩ := Bm.out.c7
                   obtain ⟨q0, q1, q2⟩ := Bq.out.c3
                   simp at l0 l1 l2 m0 m1 m2 m3 m4 m5 m6 q0 q1 q2
                   go_loopw [173] (fun i wr => ∃ i2 : Nat, i2 ≤ pna ∧ i = .int .i64 i2 ∧ Keeps WP wr [] ∧ Hid (∀ q, q < i2 → inB p.args.2[q]! f.nv = true ∧ inB p.froms.2[q]! f.nb = true)) (fun i _ => pna - (intOf i).toNat)
                   case atStart => exact ⟨0, Nat.zero_le _, rfl, Keeps.refl _ _, fun j hj => absurd hj (Nat.not_lt_zero _)⟩
                   case round =>
                    obtain ⟨i2, hi2, rfl, hr, A4⟩ := hrel
                    clear l0 l1 l2 m0 m1 m2 m3 m4 m5 m6 q0 q1 q2
                    clear Bl Bm Bq HK
                    have HK := kept hr
                    have Bl := kept (Bl_WP.out.keep hr (by simp))
                    have Bm := kept (Bm_WP.out.keep hr (by simp))
                    have Bq := kept (Bq_WP.out.keep hr (by simp))
                    clear hr
                    obtain ⟨l0, l1, l2⟩ := Bl.out.c3
                    obtain ⟨m0, m1, m2, m3, m4, m5, m6⟩ := Bm.out.c7
                    obtain ⟨q0, q1, q2⟩ := Bq.out.c3
                    simp at l0 l1 l2 m0 m1 m2 m3 m4 m5 m6 q0 q1 q2
                    by_cases hlt2 : i2 < pna
                    ·as_aux_lemma =>
                      have hlt2z : (i2 : Int) < (pna : Int) := by omega
                      rcases HZ1.out with hz | ⟨ra, ro, rfl, -, hra⟩
                      ·omega
                      rcases HZ2.out with hz | ⟨sa, so, rfl, -, hsa⟩
                      ·omega
                      have o0 := (TPW.out.and_then HK.out).cellOf (hra i2 hlt2)
                      have o1 := (TPW.out.and_then HK.out).cellOf (hsa i2 (by first | exact hlt2 | omega))
                      clear hra hsa
                      have C4 := kept (fun w => in_any p.args.2[i2]! f.nv w)
                      have C5 := kept (fun w => in_any p.froms.2[i2]! f.nb w)
                      generalize hza : p.args.2[i2]! = za at *
                      generalize hzf : p.froms.2[i2]! = zf at *
                      have HZA := kept hza
                      have HZF := kept hzf
                      clear hza hzf
                      generalize hIA : inB za f.nv = IA at *
                      generalize hIF : inB zf f.nb = IF at *
                      have HIA := kept hIA
                      have HIF := kept hIF
                      clear hIA hIF
                      cases IA with
                      | false =>
                       go_wp2_with (first | (go_at_call 84; refine (C4.out _).mono ?_; rintro e w3 ⟨rfl, rfl⟩) | (go_at_call 84; refine (C5.out _).mono ?_; rintro e w3 ⟨rfl, rfl⟩))
                       go_ret
                       exact ⟨ret_bool (by rw [← HRB.out]; exact (ref_no3 hlt (blk_no4 HY.out (block_no1 (by rw [HPN.out]; exact hltj) (by rw [HP.out]; exact phi_no4 (j := i2) (by rw [HPA.out]; exact hlt2) (by rw [HZA.out]; exact HIA.out))))).symm), (TW0.out.and_then (Tw5.out.and_then (TWP.out.and_then HK.out)))⟩
                      | true =>
                       cases IF with
                       | false =>
                        go_wp2_with (first | (go_at_call 84; refine (C4.out _).mono ?_; rintro e w3 ⟨rfl, rfl⟩) | (go_at_call 84; refine (C5.out _).mono ?_; rintro e w3 ⟨rfl, rfl⟩))
                        go_ret
                        exact ⟨ret_bool (by rw [← HRB.out]; exact (ref_no3 hlt (blk_no4 HY.out (block_no1 (by rw [HPN.out]; exact hltj) (by rw [HP.out]; exact phi_no5 (j := i2) (by rw [HPF.out]; exact hlt2) (by rw [HZF.out]; exact HIF.out))))).symm), (TW0.out.and_then (Tw5.out.and_then (TWP.out.and_then HK.out)))⟩
                       | true =>
                        go_wp2_with (first | (go_at_call 84; refine (C4.out _).mono ?_; rintro e w3 ⟨rfl, rfl⟩) | (go_at_call 84; refine (C5.out _).mono ?_; rintro e w3 ⟨rfl, rfl⟩))
                        go_roundw
                        case rel =>
                         refine ⟨i2 + 1, by omega, by go_num, HK.out, (show Hid _ from fun q hq2 => ?_)⟩
                         by_cases e : q = i2
                         ·subst e; rw [HZA.out, HZF.out]; exact ⟨HIA.out, HIF.out⟩
                         ·exact A4.out q (by omega)
                        case measure => simp [intOf]; omega
                    ·have hlt2z : ¬ (i2 : Int) < (pna : Int) := by omega
                     obtain rfl : pna = i2 := by omega
                     go_wp2
                     go_roundw
                     case rel =>
                      refine ⟨j + 1, by omega, by go_num, (TWP.out.and_then HK.out), (show Hid _ from fun q hq2 => ?_)⟩
                      by_cases e : q = j
                      ·subst e; rw [HP.out]; exact phi_yes (by rw [HDD.out]; exact HDI.out) (by rw [HPA.out, HPF.out]) (by rw [HPA.out]; omega) (fun j hj => A4.out j (by rw [← HPA.out]; exact hj))
                      ·exact A3.out q (by omega)
                     case measure => simp [intOf]; omega
                  ·have hne : ((pna : Int) != (pnf : Int)) = true := by simp; omega
                   go_wp2_with (first | (go_at_call 84; refine (CD.out _).mono ?_; rintro e w3 ⟨rfl, rfl⟩))
                   go_ret
                   exact ⟨ret_bool (by rw [← HRB.out]; exact (ref_no3 hlt (blk_no4 HY.out (block_no1 (by rw [HPN.out]; exact hltj) (by rw [HP.out]; exact phi_no2 (by rw [HPA.out, HPF.out]; exact hle))))).symm), (TW0.out.and_then (Tw5.out.and_then HK.out))⟩
               ·as_aux_lemma =>
                 have hltjz : ¬ (j : Int) < (pn : Int) := by omega
                 obtain rfl : pn = j := by omega
                 have P6 := A3
                 go_wp2
                 clear A3 hltjz hltj hj
                 go_loopw [199] (fun i wr => ∃ j : Nat, j ≤ qn ∧ i = .int .i64 j ∧ Keeps w5 wr [] ∧ Hid (∀ q, q < j → instB f y.insts.2[q]! = true)) (fun i _ => qn - (intOf i).toNat)
                 case atStart => exact ⟨0, Nat.zero_le _, rfl, HK.out, fun j hj => absurd hj (Nat.not_lt_zero _)⟩
                 case round =>
                  obtain ⟨j, hj, rfl, hr, A3⟩ := hrel
                  obtain ⟨we, hwe⟩ : ∃ we : World, we = wr := ⟨_, rfl⟩
                  subst hwe
                  clear l0 l1 l2 m0 m1 m2 m3 m4 m5 m6
                  clear Bl Bm HK
                  have HK := kept hr
                  have Bl := kept (Bl_w5.out.keep hr (by simp))
                  have Bm := kept (Bm_w5.out.keep hr (by simp))
                  clear hr
                  obtain ⟨l0, l1, l2⟩ := Bl.out.c3
                  obtain ⟨m0, m1, m2, m3, m4, m5, m6⟩ := Bm.out.c7
                  simp at l0 l1 l2 m0 m1 m2 m3 m4 m5 m6
                  by_cases hltj : j < qn
                  ·as_aux_lemma =>
                    have hltjz : (j : Int) < (qn : Int) := by omega
                    obtain ⟨pb, po, rfl, hpb, hpcell⟩ := HQC.out j hltj
                    have n0 := (KB.out.and_then HK.out).cellOf (hpcell 0 _ rfl)
                    have n1 := (KB.out.and_then HK.out).cellOf (hpcell 1 _ rfl)
                    have n2 := (KB.out.and_then HK.out).cellOf (hpcell 2 _ rfl)
                    have n3 := (KB.out.and_then HK.out).cellOf (hpcell 3 _ rfl)
                    simp only [Nat.add_zero] at n0
                    have hpa := Row.keep (HYB.out.inst _ (bang_mem (l := y.insts.2) (k := j) (by rw [HQN.out]; exact hltj))) (KB.out.and_then HK.out)
                    clear hpcell
                    generalize hp : y.insts.2[j]! = p at *
                    have HP := kept hp
                    clear hp
                    obtain ⟨u1, v1, e1, -, hm1, hz1⟩ := IntsAt.open_ hpa
                    rw [e1] at n2
                    have HZ1 := kept hz1
                    clear e1 hpa hz1
                    generalize hPA : p.args.2.length = pna at *
                    have HPA := kept hPA
                    clear hPA
                    generalize hPO : p.op = pop at *
                    have HPO := kept hPO
                    clear hPO
                    generalize hdd : p.dst = pdst at *
                    have HDD := kept hdd
                    clear hdd
                    generalize hpn2 : p.num = pnum at *
                    have HPM := kept hpn2
                    clear hpn2
                    by_cases hop : pop < 0
                    ·clear l0 l1 l2 m0 m1 m2 m3 m4 m5 m6
                     have bmx := Blk.new we 43 #[.int .i64 pop, .int .i64 pdst, .slice u1 pna v1, .int .i64 pnum]
                     have k3 : Keeps we (we.alloc (.cells #[.int .i64 pop, .int .i64 pdst, .slice u1 pna v1, .int .i64 pnum] 43)) [] := (Keeps.refl we []).alloc _
                     replace Bl := kept (Bl.out.keep k3 (by simp))
                     replace Bm := kept (Bm.out.keep k3 (by simp))
                     replace HK := kept (HK.out.and_then k3)
                     clear k3
                     have Bq := kept bmx
                     clear bmx
                     obtain ⟨l0, l1, l2⟩ := Bl.out.c3
                     obtain ⟨m0, m1, m2, m3, m4, m5, m6⟩ := Bm.out.c7
                     obtain ⟨q0, q1, q2, q3⟩ := Bq.out.c4
                     simp at l0 l1 l2 m0 m1 m2 m3 m4 m5 m6 q0 q1 q2 q3
                     go_wp2
                     go_ret
                     exact ⟨ret_bool (by rw [← HRB.out]; exact (ref_no3 hlt (blk_no4 HY.out (block_no2 (by rw [HQN.out]; exact hltj) (by rw [HP.out]; exact inst_no1 (by rw [HPO.out]; omega))))).symm), (TW0.out.and_then (Tw5.out.and_then HK.out))⟩
                    by_cases hop2 : 26 < pop
                    ·clear l0 l1 l2 m0 m1 m2 m3 m4 m5 m6
                     have bmx := Blk.new we 43 #[.int .i64 pop, .int .i64 pdst, .slice u1 pna v1, .int .i64 pnum]
                     have k3 : Keeps we (we.alloc (.cells #[.int .i64 pop, .int .i64 pdst, .slice u1 pna v1, .int .i64 pnum] 43)) [] := (Keeps.refl we []).alloc _
                     replace Bl := kept (Bl.out.keep k3 (by simp))
                     replace Bm := kept (Bm.out.keep k3 (by simp))
                     replace HK := kept (HK.out.and_then k3)
                     clear k3
                     have Bq := kept bmx
                     clear bmx
                     obtain ⟨l0, l1, l2⟩ := Bl.out.c3
                     obtain ⟨m0, m1, m2, m3, m4, m5, m6⟩ := Bm.out.c7
                     obtain ⟨q0, q1, q2, q3⟩ := Bq.out.c4
                     simp at l0 l1 l2 m0 m1 m2 m3 m4 m5 m6 q0 q1 q2 q3
                     go_wp2
                     go_ret
                     exact ⟨ret_bool (by rw [← HRB.out]; exact (ref_no3 hlt (blk_no4 HY.out (block_no2 (by rw [HQN.out]; exact hltj) (by rw [HP.out]; exact inst_no1 (by rw [HPO.out]; omega))))).symm), (TW0.out.and_then (Tw5.out.and_then HK.out))⟩
                    obtain ⟨kk, rfl⟩ : ∃ kk : Nat, pop = (kk : Int) := ⟨pop.toNat, by omega⟩
                    have hkk : kk < 27 := by omega
                    have hkkI : (kk : Int) < 27 := by omega
                    have hkk0 : (0 : Int) ≤ (kk : Int) := by omega
                    clear l0 l1 l2 m0 m1 m2 m3 m4 m5 m6
                    have bmx := Blk.new we 43 #[.int .i64 (kk : Int), .int .i64 pdst, .slice u1 pna v1, .int .i64 pnum]
                    have k3 : Keeps we (we.alloc (.cells #[.int .i64 (kk : Int), .int .i64 pdst, .slice u1 pna v1, .int .i64 pnum] 43)) [] := (Keeps.refl we []).alloc _
                    replace Bl := kept (Bl.out.keep k3 (by simp))
                    replace Bm := kept (Bm.out.keep k3 (by simp))
                    replace HK := kept (HK.out.and_then k3)
                    clear k3
                    have Bq := kept bmx
                    clear bmx
                    obtain ⟨l0, l1, l2⟩ := Bl.out.c3
                    obtain ⟨m0, m1, m2, m3, m4, m5, m6⟩ := Bm.out.c7
                    obtain ⟨q0, q1, q2, q3⟩ := Bq.out.c4
                    simp at l0 l1 l2 m0 m1 m2 m3 m4 m5 m6 q0 q1 q2 q3
                    have CRW := kept (fun w => rows_at kk hkk w)
                    have TPW0 : Hid (Keeps we (we.alloc (.cells #[.int .i64 (kk : Int), .int .i64 pdst, .slice u1 pna v1, .int .i64 pnum] 43)) []) := (Keeps.refl we []).alloc _
                    go_wp2_with fail
                    clear n0 n1 n2 n3
                    clear l0 l1 l2 m0 m1 m2 m3 m4 m5 m6 q0 q1 q2 q3
                    generalize we.alloc (.cells #[.int .i64 (kk : Int), .int .i64 pdst, .slice u1 pna v1, .int .i64 pnum] 43) = WQ at *
                    have Bl_WQ := Bl
                    have Bm_WQ := Bm
                    have Bq_WQ := Bq
                    have TWQ := HK
                    clear HK
                    have HK := kept (Keeps.refl WQ [])
                    obtain ⟨l0, l1, l2⟩ := Bl.out.c3
                    obtain ⟨m0, m1, m2, m3, m4, m5, m6⟩ := Bm.out.c7
                    obtain ⟨q0, q1, q2, q3⟩ := Bq.out.c4
                    simp at l0 l1 l2 m0 m1 m2 m3 m4 m5 m6 q0 q1 q2 q3
                    go_upto_region 55 with (fail)
                    go_cut [19] from 211 to 215 (fun t19 wx => ∃ rb : Nat, t19 = .pointer (some ⟨rb, 0, none⟩) ∧ Keeps WQ wx [] ∧ Blk wx rb 110 #[.string (kword kk), .string (ktakes kk), .string (kmakes kk)])
                    case first =>
                     refine wp_region_held_drew (S := (fun w' => w'.cell? ⟨we.heap.size, 0, none⟩ = some (.int .i64 (kk : Int)))) (by kernel_rfl) ?zhSs (fun hHeld => ?_)
                     case zhSs => exact q0
                     clear l0 l1 l2 m0 m1 m2 m3 m4 m5 m6 q0 q1 q2 q3
                     have KX := kept ((Keeps.refl WQ []).drew)
                     generalize World.drew _ = X0 at *
                     have q0 := (Bq.out.keep KX.out (by simp)).cell 0
                     simp at q0
                     refine tp 1 212 rfl hHeld ?_
                     refine tp 2 213 rfl hHeld ?_
                     refine wpAnyH_ready (rs := [0, 5]) (by kernel_rfl) (by simp) ?_
                     refine AllReadyH.cons rfl (fun K hK => ?_) ?_
                     ·clear hHeld
                      go_simp
                      (with_reducible refine (CRW.out _).mono ?_)
                      rintro e X3 ⟨g, rfl, k3, hr0, hr1, hr2⟩
                      show K _ _
                      have KXx := kept (KX.out.and_then k3)
                      have RR := kept (And.intro hr0 (And.intro hr1 hr2))
                      clear k3 hr0 hr1 hr2 KX q0
                      have KX := KXx
                      clear KXx
                      have q0 := (Bq.out.keep KX.out (by simp)).cell 0
                      simp at q0
                      refine hK.out _ _ ?z3S (fun hHeld => ?_)
                      case z3S => exact q0
                      clear hK K
                      try simp only [Act.put, sA, sB, sC]
                      refine tp 3 214 rfl hHeld ?_
                      refine wpAnyH_ready (rs := [4, 5]) (by kernel_rfl) (by simp) ?_
                      refine AllReadyH.cons rfl (fun K hK => ?_) ?_
                      ·clear hHeld
                       obtain ⟨r0, r1, r2⟩ := RR.out
                       go_simp
                       clear r0 r1 r2
                       refine hK.out _ _ ?z5S (fun hHeld => ?_)
                       case z5S => exact q0
                       clear hK K
                       try simp only [Act.put, sA, sB, sC]
                       refine wpAnyH_ready (rs := [5]) (by kernel_rfl) (by simp) ?_
                       refine AllReadyH.cons rfl (fun K hK => ?_) ?_
                       ·clear hHeld
                        go_simp
                        have k3 : Keeps X3 (X3.alloc (.cells #[.string ⟨#[]⟩, .string ⟨#[]⟩, .string ⟨#[]⟩] 110)) [] := (Keeps.refl X3 []).alloc _
                        have BRx := kept (Blk.new X3 110 #[.string ⟨#[]⟩, .string ⟨#[]⟩, .string ⟨#[]⟩])
                        have HGE := kept KX.out.size
                        have KXx := kept (KX.out.and_then k3)
                        have RRx := kept (And.intro (k3.cellOf RR.out.1) (And.intro (k3.cellOf RR.out.2.1) (k3.cellOf RR.out.2.2)))
                        clear RR
                        have RR := RRx
                        clear RRx
                        clear k3 KX q0
                        generalize X3.alloc (.cells #[.string ⟨#[]⟩, .string ⟨#[]⟩, .string ⟨#[]⟩] 110) = X6 at *
                        generalize X3.heap.size = rb at *
                        have KX := KXx
                        have BR := BRx
                        clear BRx
                        clear KXx
                        have q0 := (Bq.out.keep KX.out (by simp)).cell 0
                        simp at q0
                        refine hK.out _ _ ?z6S (fun hHeld => ?_)
                        case z6S => exact q0
                        clear hK K
                        try simp only [Act.put, sA, sB, sC]
                        refine wpAnyH_ready (rs := [6]) (by kernel_rfl) (by simp) ?_
                        refine AllReadyH.cons rfl (fun K hK => ?_) ?_
                        ·clear hHeld
                         have b0 := BR.out.cell 0
                         have f0 := BR.out.frozen 0
                         have b1 := BR.out.cell 1
                         have f1 := BR.out.frozen 1
                         have b2 := BR.out.cell 2
                         have f2 := BR.out.frozen 2
                         simp at b0 b1 b2
                         go_simp
                         have BRx := kept (blk_three (a := .string (kword kk)) (b := .string (ktakes kk)) (c := .string (kmakes kk)) BR.out)
                         have KXx := kept (keeps_three (a := .string (kword kk)) (b := .string (ktakes kk)) (c := .string (kmakes kk)) KX.out HGE.out)
                         clear b0 b1 b2 f0 f1 f2 KX BR RR q0
                         generalize (((X6.setCell ⟨rb, 0, none⟩ (.string (kword kk))).setCell ⟨rb, 1, none⟩ (.string (ktakes kk))).setCell ⟨rb, 2, none⟩ (.string (kmakes kk))) = X7 at *
                         have KX := KXx
                         have BR := BRx
                         clear BRx
                         clear KXx
                         have q0 := (Bq.out.keep KX.out (by simp)).cell 0
                         simp at q0
                         refine hK.out _ _ ?z7S (fun hHeld => ?_)
                         case z7S => exact q0
                         clear hK K
                         try simp only [Act.put, sA, sB, sC]
                         refine wpAnyH_done (by kernel_rfl) ?_ _
                         go_wp2
                         go_meet
                         exact ⟨_, rfl, KX.out, BR.out⟩
                        exact t4
                       exact t4
                      refine AllReadyH.cons rfl (fun K hK => ?_) ?_
                      ·clear hHeld
                       go_simp
                       have k3 : Keeps X3 (X3.alloc (.cells #[.string ⟨#[]⟩, .string ⟨#[]⟩, .string ⟨#[]⟩] 110)) [] := (Keeps.refl X3 []).alloc _
                       have BRx := kept (Blk.new X3 110 #[.string ⟨#[]⟩, .string ⟨#[]⟩, .string ⟨#[]⟩])
                       have HGE := kept KX.out.size
                       have KXx := kept (KX.out.and_then k3)
                       have RRx := kept (And.intro (k3.cellOf RR.out.1) (And.intro (k3.cellOf RR.out.2.1) (k3.cellOf RR.out.2.2)))
                       clear RR
                       have RR := RRx
                       clear RRx
                       clear k3 KX q0
                       generalize X3.alloc (.cells #[.string ⟨#[]⟩, .string ⟨#[]⟩, .string ⟨#[]⟩] 110) = X8 at *
                       generalize X3.heap.size = rb at *
                       have KX := KXx
                       have BR := BRx
                       clear BRx
                       clear KXx
                       have q0 := (Bq.out.keep KX.out (by simp)).cell 0
                       simp at q0
                       refine hK.out _ _ ?z8S (fun hHeld => ?_)
                       case z8S => exact q0
                       clear hK K
                       try simp only [Act.put, sA, sB, sC]
                       refine wpAnyH_ready (rs := [4]) (by kernel_rfl) (by simp) ?_
                       refine AllReadyH.cons rfl (fun K hK => ?_) ?_
                       ·clear hHeld
                        obtain ⟨r0, r1, r2⟩ := RR.out
                        go_simp
                        clear r0 r1 r2
                        refine hK.out _ _ ?z9S (fun hHeld => ?_)
                        case z9S => exact q0
                        clear hK K
                        try simp only [Act.put, sA, sB, sC]
                        refine wpAnyH_ready (rs := [6]) (by kernel_rfl) (by simp) ?_
                        refine AllReadyH.cons rfl (fun K hK => ?_) ?_
                        ·clear hHeld
                         have b0 := BR.out.cell 0
                         have f0 := BR.out.frozen 0
                         have b1 := BR.out.cell 1
                         have f1 := BR.out.frozen 1
                         have b2 := BR.out.cell 2
                         have f2 := BR.out.frozen 2
                         simp at b0 b1 b2
                         go_simp
                         have BRx := kept (blk_three (a := .string (kword kk)) (b := .string (ktakes kk)) (c := .string (kmakes kk)) BR.out)
                         have KXx := kept (keeps_three (a := .string (kword kk)) (b := .string (ktakes kk)) (c := .string (kmakes kk)) KX.out HGE.out)
                         clear b0 b1 b2 f0 f1 f2 KX BR RR q0
                         generalize (((X8.setCell ⟨rb, 0, none⟩ (.string (kword kk))).setCell ⟨rb, 1, none⟩ (.string (ktakes kk))).setCell ⟨rb, 2, none⟩ (.string (kmakes kk))) = X10 at *
                         have KX := KXx
                         have BR := BRx
                         clear BRx
                         clear KXx
                         have q0 := (Bq.out.keep KX.out (by simp)).cell 0
                         simp at q0
                         refine hK.out _ _ ?z10S (fun hHeld => ?_)
                         case z10S => exact q0
                         clear hK K
                         try simp only [Act.put, sA, sB, sC]
                         refine wpAnyH_done (by kernel_rfl) ?_ _
                         go_wp2
                         go_meet
                         exact ⟨_, rfl, KX.out, BR.out⟩
                        exact t4
                       exact t4
                      exact t4
                     refine AllReadyH.cons rfl (fun K hK => ?_) ?_
                     ·clear hHeld
                      go_simp
                      have k3 : Keeps X0 (X0.alloc (.cells #[.string ⟨#[]⟩, .string ⟨#[]⟩, .string ⟨#[]⟩] 110)) [] := (Keeps.refl X0 []).alloc _
                      have BRx := kept (Blk.new X0 110 #[.string ⟨#[]⟩, .string ⟨#[]⟩, .string ⟨#[]⟩])
                      have HGE := kept KX.out.size
                      have KXx := kept (KX.out.and_then k3)
                      clear k3 KX q0
                      generalize X0.alloc (.cells #[.string ⟨#[]⟩, .string ⟨#[]⟩, .string ⟨#[]⟩] 110) = X11 at *
                      generalize X0.heap.size = rb at *
                      have KX := KXx
                      have BR := BRx
                      clear BRx
                      clear KXx
                      have q0 := (Bq.out.keep KX.out (by simp)).cell 0
                      simp at q0
                      refine hK.out _ _ ?z11S (fun hHeld => ?_)
                      case z11S => exact q0
                      clear hK K
                      try simp only [Act.put, sA, sB, sC]
                      refine wpAnyH_ready (rs := [0]) (by kernel_rfl) (by simp) ?_
                      refine AllReadyH.cons rfl (fun K hK => ?_) ?_
                      ·clear hHeld
                       go_simp
                       (with_reducible refine (CRW.out _).mono ?_)
                       rintro e X12 ⟨g, rfl, k3, hr0, hr1, hr2⟩
                       show K _ _
                       have KXx := kept (KX.out.and_then k3)
                       have BRx := kept (BR.out.keep k3 (by simp))
                       have RR := kept (And.intro hr0 (And.intro hr1 hr2))
                       clear k3 hr0 hr1 hr2 KX q0 BR
                       have KX := KXx
                       have BR := BRx
                       clear BRx
                       clear KXx
                       have q0 := (Bq.out.keep KX.out (by simp)).cell 0
                       simp at q0
                       refine hK.out _ _ ?z12S (fun hHeld => ?_)
                       case z12S => exact q0
                       clear hK K
                       try simp only [Act.put, sA, sB, sC]
                       refine tp 3 214 rfl hHeld ?_
                       refine wpAnyH_ready (rs := [4]) (by kernel_rfl) (by simp) ?_
                       refine AllReadyH.cons rfl (fun K hK => ?_) ?_
                       ·clear hHeld
                        obtain ⟨r0, r1, r2⟩ := RR.out
                        go_simp
                        clear r0 r1 r2
                        refine hK.out _ _ ?z14S (fun hHeld => ?_)
                        case z14S => exact q0
                        clear hK K
                        try simp only [Act.put, sA, sB, sC]
                        refine wpAnyH_ready (rs := [6]) (by kernel_rfl) (by simp) ?_
                        refine AllReadyH.cons rfl (fun K hK => ?_) ?_
                        ·clear hHeld
                         have b0 := BR.out.cell 0
                         have f0 := BR.out.frozen 0
                         have b1 := BR.out.cell 1
                         have f1 := BR.out.frozen 1
                         have b2 := BR.out.cell 2
                         have f2 := BR.out.frozen 2
                         simp at b0 b1 b2
                         go_simp
                         have BRx := kept (blk_three (a := .string (kword kk)) (b := .string (ktakes kk)) (c := .string (kmakes kk)) BR.out)
                         have KXx := kept (keeps_three (a := .string (kword kk)) (b := .string (ktakes kk)) (c := .string (kmakes kk)) KX.out HGE.out)
                         clear b0 b1 b2 f0 f1 f2 KX BR RR q0
                         generalize (((X12.setCell ⟨rb, 0, none⟩ (.string (kword kk))).setCell ⟨rb, 1, none⟩ (.string (ktakes kk))).setCell ⟨rb, 2, none⟩ (.string (kmakes kk))) = X15 at *
                         have KX := KXx
                         have BR := BRx
                         clear BRx
                         clear KXx
                         have q0 := (Bq.out.keep KX.out (by simp)).cell 0
                         simp at q0
                         refine hK.out _ _ ?z15S (fun hHeld => ?_)
                         case z15S => exact q0
                         clear hK K
                         try simp only [Act.put, sA, sB, sC]
                         refine wpAnyH_done (by kernel_rfl) ?_ _
                         go_wp2
                         go_meet
                         exact ⟨_, rfl, KX.out, BR.out⟩
                        exact t4
                       exact t4
                      exact t4
                     exact t4
                    case rest =>
                     obtain ⟨rb, rfl, k3, hbr⟩ := hcut
                     clear l0 l1 l2 m0 m1 m2 m3 m4 m5 m6 q0 q1 q2 q3
                     replace Bl := kept (Bl.out.keep k3 (by simp))
                     replace Bm := kept (Bm.out.keep k3 (by simp))
                     replace Bq := kept (Bq.out.keep k3 (by simp))
                     replace HK := kept (HK.out.and_then k3)
                     obtain ⟨l0, l1, l2⟩ := Bl.out.c3
                     obtain ⟨m0, m1, m2, m3, m4, m5, m6⟩ := Bm.out.c7
                     obtain ⟨q0, q1, q2, q3⟩ := Bq.out.c4
                     simp at l0 l1 l2 m0 m1 m2 m3 m4 m5 m6 q0 q1 q2 q3
                     clear k3
                     have Br := kept hbr
                     clear hbr
                     obtain ⟨r0, r1, r2⟩ := Br.out.c3
                     simp at r0 r1 r2
                     have hkw := kword0 kk hkk
                     have hkm := kmakes0 kk hkk
                     have hnt : (ktakes kk).size = ntk (kk : Int) := rfl
                     have hntB : (ktakes kk).size ≤ 100 := (takes_small kk hkk).1
                     generalize hwd : kword kk = wd' at *
                     generalize htk : ktakes kk = tk' at *
                     generalize hmk : kmakes kk = mk' at *
                     have HNT := kept hnt
                     clear hnt hwd htk hmk
                     have hc1 := hkw.1
                     have hc2 := hkw.2
                     clear hkw
                     generalize hMK : mk1 (kk : Int) = MK at *
                     have HMK := kept hMK
                     clear hMK
                     generalize hE0 : decide (kk = 0) = K0 at *
                     generalize hE25 : decide (kk = 25) = K25 at *
                     have HE0 := kept hE0
                     have HE25 := kept hE25
                     clear hE0 hE25
                     have CD := kept (fun w => in_any pdst f.nv w)
                     generalize hDI : inB pdst f.nv = DI at *
                     have HDI := kept hDI
                     clear hDI
                     skip
                     obtain ⟨BD, hBD⟩ : ∃ B, (!(pna == tk'.size) || !(if MK = true then DI else pdst == -1) || !(pnum == 0 || (K0 || K25))) = B := ⟨_, rfl⟩
                     have HBL := kept hBD
                     clear hBD
                     have hk0 : ((kk : Int) == 0) = K0 := by rw [← HE0.out, Bool.eq_iff_iff]; simp
                     have hk25 : ((kk : Int) == 25) = K25 := by rw [← HE25.out, Bool.eq_iff_iff]; simp; omega
                     have HBI := kept (show instB f p = (!BD && p.args.2.all (inB · f.nv)) by rw [← HBL.out, inst_bd (by rw [HPO.out]; omega), HPA.out, HPO.out, HDD.out, HPM.out, HMK.out, HDI.out, ← HNT.out, hk0, hk25])
                     clear hk0 hk25
                     go_upto_region 56 with (fail)
                     generalize Value.agg #[.int .i64 (kk : Int), .int .i64 pdst, .slice u1 pna v1, .int .i64 pnum] = V202
                     go_cut [258] from 216 to 258 (fun t9 wz => t9 = .bool BD ∧ Keeps WQ wz [])
                     case first =>
                      by_cases hle : pna = tk'.size
                      ·as_aux_lemma =>
                        have hne : ((pna : Int) != (tk'.size : Int)) = false := by simp; omega
                        have hle2 : (pna == tk'.size) = true := by simpa using hle
                        rcases Bool.eq_false_or_eq_true (pdst == -1) with hd1 | hd1
                        ·have hd1n : (pdst != -1) = false := by show (!(pdst == -1)) = false; rw [hd1]; rfl
                         cases MK with
                         | true =>
                          rw [Bool.not_true] at hkm
                          have hdi : DI = false := by rw [← HDI.out, show pdst = -1 by simpa using hd1]; rfl
                          subst hdi
                          go_wp2
                          go_meet
                          exact ⟨by rw [← HBL.out]; simp [*], HK.out⟩
                         | false =>
                          rw [Bool.not_false] at hkm
                          rcases Bool.eq_false_or_eq_true (pnum == 0) with hz0 | hz0
                          ·have hz1 : (pnum != 0) = false := by show (!(pnum == 0)) = _; rw [hz0]; rfl
                           go_wp2
                           go_meet
                           exact ⟨by rw [← HBL.out]; simp [*], HK.out⟩
                          ·have hz1 : (pnum != 0) = true := by show (!(pnum == 0)) = _; rw [hz0]; rfl
                           cases K0 with
                           | true =>
                            go_wp2
                            go_meet
                            exact ⟨by rw [← HBL.out]; simp [*], HK.out⟩
                           | false =>
                            cases K25
                            all_goals
                             go_wp2
                             go_meet
                             exact ⟨by rw [← HBL.out]; simp [*], HK.out⟩
                        ·have hd1n : (pdst != -1) = true := by show (!(pdst == -1)) = true; rw [hd1]; rfl
                         cases MK with
                         | false =>
                          rw [Bool.not_false] at hkm
                          go_wp2
                          go_meet
                          exact ⟨by rw [← HBL.out]; simp [*], HK.out⟩
                         | true =>
                          rw [Bool.not_true] at hkm
                          cases DI with
                          | false =>
                           go_wp2_with (first | (go_at_call 84; refine (CD.out _).mono ?_; rintro e w3 ⟨rfl, rfl⟩))
                           go_meet
                           exact ⟨by rw [← HBL.out]; simp [*], HK.out⟩
                          | true =>
                           rcases Bool.eq_false_or_eq_true (pnum == 0) with hz0 | hz0
                           ·have hz1 : (pnum != 0) = false := by show (!(pnum == 0)) = _; rw [hz0]; rfl
                            go_wp2_with (first | (go_at_call 84; refine (CD.out _).mono ?_; rintro e w3 ⟨rfl, rfl⟩))
                            go_meet
                            exact ⟨by rw [← HBL.out]; simp [*], HK.out⟩
                           ·have hz1 : (pnum != 0) = true := by show (!(pnum == 0)) = _; rw [hz0]; rfl
                            cases K0 with
                            | true =>
                             go_wp2_with (first | (go_at_call 84; refine (CD.out _).mono ?_; rintro e w3 ⟨rfl, rfl⟩))
                             go_meet
                             exact ⟨by rw [← HBL.out]; simp [*], HK.out⟩
                            | false =>
                             cases K25
                             all_goals
                              go_wp2_with (first | (go_at_call 84; refine (CD.out _).mono ?_; rintro e w3 ⟨rfl, rfl⟩))
                              go_meet
                              exact ⟨by rw [← HBL.out]; simp [*], HK.out⟩
                      ·as_aux_lemma =>
                        have hne : ((pna : Int) != (tk'.size : Int)) = true := by simp; omega
                        have hle2 : (pna == tk'.size) = false := by simpa using hle
                        go_wp2
                        go_meet
                        exact ⟨by rw [← HBL.out]; simp [*], HK.out⟩
                     case rest =>
                      as_aux_lemma =>
                       obtain ⟨rfl, hr⟩ := hcut
                       clear r0 r1 r2 Br
                       clear l0 l1 l2 m0 m1 m2 m3 m4 m5 m6 q0 q1 q2 q3
                       clear Bl Bm Bq HK
                       have HK := kept hr
                       have Bl := kept (Bl_WQ.out.keep hr (by simp))
                       have Bm := kept (Bm_WQ.out.keep hr (by simp))
                       have Bq := kept (Bq_WQ.out.keep hr (by simp))
                       clear hr
                       obtain ⟨l0, l1, l2⟩ := Bl.out.c3
                       obtain ⟨m0, m1, m2, m3, m4, m5, m6⟩ := Bm.out.c7
                       obtain ⟨q0, q1, q2, q3⟩ := Bq.out.c4
                       simp at l0 l1 l2 m0 m1 m2 m3 m4 m5 m6 q0 q1 q2 q3
                       cases BD with
                       | true =>
                        go_wp2
                        go_ret
                        exact ⟨ret_bool (by rw [← HRB.out]; exact (ref_no3 hlt (blk_no4 HY.out (block_no2 (by rw [HQN.out]; exact hltj) (by rw [HP.out]; exact (by rw [HBI.out]; rfl))))).symm), (TW0.out.and_then (Tw5.out.and_then (TWQ.out.and_then HK.out)))⟩
                       | false =>
                        have hpna : pna = tk'.size := by
                         have h := HBL.out
                         simp only [Bool.or_eq_false_iff, Bool.not_eq_false'] at h
                         simpa using h.1.1
                        have HBI2 := kept (show instB f p = p.args.2.all (inB · f.nv) by rw [HBI.out]; rfl)
                        go_wp2
                        go_loopw [262] (fun i wr => ∃ i2 : Nat, i2 ≤ pna ∧ i = .int .i64 i2 ∧ Keeps WQ wr [] ∧ Hid (∀ q, q < i2 → inB p.args.2[q]! f.nv = true)) (fun i _ => pna - (intOf i).toNat)
                        case atStart => exact ⟨0, Nat.zero_le _, rfl, HK.out, fun j hj => absurd hj (Nat.not_lt_zero _)⟩
                        case round =>
                         obtain ⟨i2, hi2, rfl, hr, A4⟩ := hrel
                         clear l0 l1 l2 m0 m1 m2 m3 m4 m5 m6 q0 q1 q2 q3
                         clear Bl Bm Bq HK
                         have HK := kept hr
                         clear hr
                         by_cases hlt2 : i2 < pna
                         ·as_aux_lemma =>
                           have hlt2z : (i2 : Int) < (pna : Int) := by omega
                           rcases HZ1.out with hz | ⟨ra, ro, rfl, -, hra⟩
                           ·omega
                           have o0 := (TPW0.out.and_then HK.out).cellOf (hra i2 hlt2)
                           clear hra
                           have C4 := kept (fun w => in_any p.args.2[i2]! f.nv w)
                           have HNa := kept (fun h : inB p.args.2[i2]! f.nv = false => all_no (p := (inB · f.nv)) (l := p.args.2) (k := i2) (by rw [HPA.out]; exact hlt2) h)
                           generalize hza : p.args.2[i2]! = za at *
                           have HZA := kept hza
                           clear hza
                           generalize hIA : inB za f.nv = IA at *
                           have HIA := kept hIA
                           clear hIA
                           cases IA with
                           | false =>
                            go_wp2_with (go_at_call 84; refine (C4.out _).mono ?_; rintro e w3 ⟨rfl, rfl⟩)
                            go_ret
                            exact ⟨ret_bool (by rw [← HRB.out]; exact (ref_no3 hlt (blk_no4 HY.out (block_no2 (by rw [HQN.out]; exact hltj) (by rw [HP.out]; exact (by rw [HBI2.out]; exact HNa.out (by simp)))))).symm), (TW0.out.and_then (Tw5.out.and_then (TWQ.out.and_then HK.out)))⟩
                           | true =>
                            go_wp2_with (go_at_call 84; refine (C4.out _).mono ?_; rintro e w3 ⟨rfl, rfl⟩)
                            go_roundw
                            case rel =>
                             refine ⟨i2 + 1, by omega, by go_num, HK.out, (show Hid _ from fun q hq2 => ?_)⟩
                             by_cases e : q = i2
                             ·subst e; rw [HZA.out]; exact HIA.out
                             ·exact A4.out q (by omega)
                            case measure => simp [intOf]; omega
                         ·have hlt2z : ¬ (i2 : Int) < (pna : Int) := by omega
                          obtain rfl : pna = i2 := by omega
                          go_wp2
                          go_roundw
                          case rel =>
                           refine ⟨j + 1, by omega, by go_num, (TWQ.out.and_then HK.out), (show Hid _ from fun q hq2 => ?_)⟩
                           by_cases e : q = j
                           ·subst e; rw [HP.out, HBI2.out]; exact all_yes (p := (inB · f.nv)) (fun j hj => A4.out j (by rw [← HPA.out]; exact hj))
                           ·exact A3.out q (by omega)
                          case measure => simp [intOf]; omega
                  ·as_aux_lemma =>
                    have hltjz : ¬ (j : Int) < (qn : Int) := by omega
                    obtain rfl : qn = j := by omega
                    have P8 := A3
                    clear l0 l1 l2 m0 m1 m2 m3 m4 m5 m6
                    obtain ⟨l0, l1, l2⟩ := Bl.out.c3
                    obtain ⟨m0, m1, m2, m3, m4, m5, m6⟩ := Bm.out.c7
                    simp at l0 l1 l2 m0 m1 m2 m3 m4 m5 m6
                    have o3 := Bm.out.cell 3
                    have o4 := Bm.out.cell 4
                    have o5 := Bm.out.cell 5
                    have o6 := Bm.out.cell 6
                    simp at o3 o4 o5 o6
                    clear l0 l1 l2 m0 m1 m2 m3 m4 m5 m6
                    have bmx := Blk.new we 36 #[.int .i64 yk, .int .i64 yv, .int .i64 y0, .int .i64 y1]
                    have k3 : Keeps we (we.alloc (.cells #[.int .i64 yk, .int .i64 yv, .int .i64 y0, .int .i64 y1] 36)) [] := (Keeps.refl we []).alloc _
                    replace Bl := kept (Bl.out.keep k3 (by simp))
                    replace Bm := kept (Bm.out.keep k3 (by simp))
                    replace HK := kept (HK.out.and_then k3)
                    clear k3
                    have Bt := kept bmx
                    clear bmx
                    obtain ⟨l0, l1, l2⟩ := Bl.out.c3
                    obtain ⟨m0, m1, m2, m3, m4, m5, m6⟩ := Bm.out.c7
                    obtain ⟨t0, t1, t2, t3⟩ := Bt.out.c4
                    simp at l0 l1 l2 m0 m1 m2 m3 m4 m5 m6 t0 t1 t2 t3
                    obtain ⟨TB, hTB⟩ : ∃ B, termB f yk yv y0 y1 = B := ⟨_, rfl⟩
                    have HTB := kept hTB
                    have HTBf := kept (fun h : TB = false => (ref_no3 hlt (blk_no4 HY.out (block_no3 (by rw [Hyk.out, Hyv.out, Hy0.out, Hy1.out, HTB.out]; exact h)))))
                    have HTBt := kept (fun h : TB = true => (blk_yes (k := k) HY.out (by rw [Hyn.out]; exact HNB1.out) (fun j hj => by rw [Hyn.out]; exact P5.out j hj) (by rw [HSn.out]; omega) (block_yes (fun j hj => P6.out j (by rw [← HPN.out]; exact hj)) (fun j hj => P8.out j (by rw [← HQN.out]; exact hj)) (by rw [Hyk.out, Hyv.out, Hy0.out, Hy1.out, HTB.out]; exact h))))
                    clear hTB P6 P8 P5 A3
                    have CV := kept (fun w => in_any yv f.nv w)
                    have C0 := kept (fun w => in_any y0 f.nb w)
                    have C1 := kept (fun w => in_any y1 f.nb w)
                    obtain ⟨IV, hIV⟩ : ∃ B, inB yv f.nv = B := ⟨_, rfl⟩
                    obtain ⟨I0, hI0⟩ : ∃ B, inB y0 f.nb = B := ⟨_, rfl⟩
                    obtain ⟨I1, hI1⟩ : ∃ B, inB y1 f.nb = B := ⟨_, rfl⟩
                    rw [hIV] at CV
                    rw [hI0] at C0
                    rw [hI1] at C1
                    have HIV := kept hIV
                    have HI0 := kept hI0
                    have HI1 := kept hI1
                    clear hIV hI0 hI1
                    by_cases k0 : yk = 0
                    ·subst k0
                     have HU : Hid (termB f 0 yv y0 y1 = (I0 && (y1 == 0) && (yv == 0))) := by show _ = _; unfold termB; rw [if_pos rfl, HI0.out]
                     cases I0 with
                     | false =>
                      have hb : TB = false := by rw [← HTB.out]; rw [HU.out]; rfl
                      go_wp2_with (first | (go_at_call 84; have C0x := C0; clear C0; refine (C0x.out _).mono ?_; rintro e w3 ⟨rfl, rfl⟩; clear C0x))
                      go_ret
                      exact ⟨ret_bool (by rw [← HRB.out]; exact (HTBf.out hb).symm), (TW0.out.and_then (Tw5.out.and_then HK.out))⟩
                     | true =>
                      rcases zero_or y1 with rfl | g1
                      ·rcases zero_or yv with rfl | g2
                       ·have hb := HTBt.out (show TB = true by rw [← HTB.out]; rw [HU.out]; rfl)
                        have HB9 := kept hb
                        clear hb
                        go_wp2_with (first | (go_at_call 84; have C0x := C0; clear C0; refine (C0x.out _).mono ?_; rintro e w3 ⟨rfl, rfl⟩; clear C0x))
                        go_roundw
                        case rel =>
                         refine ⟨k + 1, by omega, by go_num, ?_, (Tw5.out.and_then HK.out), by rw [HSn.out]; omega, (show Hid _ from fun q hq2 => ?_)⟩
                         ·rw [HSn.out]; go_num
                         ·by_cases e : q = k
                          ·subst e; exact HB9.out
                          ·exact A.out q (by omega)
                        case measure => simp [intOf]; omega
                       ·have hb : TB = false := by rw [← HTB.out]; rw [HU.out, g2]; rfl
                        go_wp2_with (first | (go_at_call 84; have C0x := C0; clear C0; refine (C0x.out _).mono ?_; rintro e w3 ⟨rfl, rfl⟩; clear C0x))
                        go_ret
                        exact ⟨ret_bool (by rw [← HRB.out]; exact (HTBf.out hb).symm), (TW0.out.and_then (Tw5.out.and_then HK.out))⟩
                      ·have hb : TB = false := by rw [← HTB.out]; rw [HU.out, g1]; rfl
                       go_wp2_with (first | (go_at_call 84; have C0x := C0; clear C0; refine (C0x.out _).mono ?_; rintro e w3 ⟨rfl, rfl⟩; clear C0x))
                       go_ret
                       exact ⟨ret_bool (by rw [← HRB.out]; exact (HTBf.out hb).symm), (TW0.out.and_then (Tw5.out.and_then HK.out))⟩
                    have q0' : (yk == 0) = false := by simpa using k0
                    by_cases k1 : yk = 1
                    ·subst k1
                     have HU : Hid (termB f 1 yv y0 y1 = (IV && I0 && I1)) := by show _ = _; unfold termB; rw [if_neg (by decide), if_pos rfl, HIV.out, HI0.out, HI1.out]
                     cases IV with
                     | false =>
                      have hb : TB = false := by rw [← HTB.out]; rw [HU.out]; rfl
                      go_wp2_with (first | (go_at_call 84; have CVx := CV; clear CV; refine (CVx.out _).mono ?_; rintro e w3 ⟨rfl, rfl⟩; clear CVx))
                      go_ret
                      exact ⟨ret_bool (by rw [← HRB.out]; exact (HTBf.out hb).symm), (TW0.out.and_then (Tw5.out.and_then HK.out))⟩
                     | true =>
                      cases I0 with
                      | false =>
                       have hb : TB = false := by rw [← HTB.out]; rw [HU.out]; rfl
                       go_wp2_with (first | (go_at_call 84; have CVx := CV; clear CV; refine (CVx.out _).mono ?_; rintro e w3 ⟨rfl, rfl⟩; clear CVx) | (go_at_call 84; have C0x := C0; clear C0; refine (C0x.out _).mono ?_; rintro e w3 ⟨rfl, rfl⟩; clear C0x))
                       go_ret
                       exact ⟨ret_bool (by rw [← HRB.out]; exact (HTBf.out hb).symm), (TW0.out.and_then (Tw5.out.and_then HK.out))⟩
                      | true =>
                       cases I1 with
                       | false =>
                        have hb : TB = false := by rw [← HTB.out]; rw [HU.out]; rfl
                        go_wp2_with (first | (go_at_call 84; have CVx := CV; clear CV; refine (CVx.out _).mono ?_; rintro e w3 ⟨rfl, rfl⟩; clear CVx) | (go_at_call 84; have C0x := C0; clear C0; refine (C0x.out _).mono ?_; rintro e w3 ⟨rfl, rfl⟩; clear C0x) | (go_at_call 84; have C1x := C1; clear C1; refine (C1x.out _).mono ?_; rintro e w3 ⟨rfl, rfl⟩; clear C1x))
                        go_ret
                        exact ⟨ret_bool (by rw [← HRB.out]; exact (HTBf.out hb).symm), (TW0.out.and_then (Tw5.out.and_then HK.out))⟩
                       | true =>
                        have hb := HTBt.out (show TB = true by rw [← HTB.out]; rw [HU.out]; rfl)
                        have HB9 := kept hb
                        clear hb
                        go_wp2_with (first | (go_at_call 84; have CVx := CV; clear CV; refine (CVx.out _).mono ?_; rintro e w3 ⟨rfl, rfl⟩; clear CVx) | (go_at_call 84; have C0x := C0; clear C0; refine (C0x.out _).mono ?_; rintro e w3 ⟨rfl, rfl⟩; clear C0x) | (go_at_call 84; have C1x := C1; clear C1; refine (C1x.out _).mono ?_; rintro e w3 ⟨rfl, rfl⟩; clear C1x))
                        go_roundw
                        case rel =>
                         refine ⟨k + 1, by omega, by go_num, ?_, (Tw5.out.and_then HK.out), by rw [HSn.out]; omega, (show Hid _ from fun q hq2 => ?_)⟩
                         ·rw [HSn.out]; go_num
                         ·by_cases e : q = k
                          ·subst e; exact HB9.out
                          ·exact A.out q (by omega)
                        case measure => simp [intOf]; omega
                    have q1' : (yk == 1) = false := by simpa using k1
                    by_cases k2 : yk = 2
                    ·subst k2
                     have HU : Hid (termB f 2 yv y0 y1 = (IV && ((y0 == 0) && (y1 == 0)))) := by show _ = _; unfold termB; rw [if_neg (by decide), if_neg (by decide), if_pos rfl, HIV.out]
                     have two := fun w => two_eql y0 y1 0 0 w
                     cases IV with
                     | false =>
                      have hb : TB = false := by rw [← HTB.out]; rw [HU.out]; rfl
                      go_wp2_with (first | (go_at_call 84; have CVx := CV; clear CV; refine (CVx.out _).mono ?_; rintro e w3 ⟨rfl, rfl⟩; clear CVx))
                      go_ret
                      exact ⟨ret_bool (by rw [← HRB.out]; exact (HTBf.out hb).symm), (TW0.out.and_then (Tw5.out.and_then HK.out))⟩
                     | true =>
                      cases hzz : ((y0 == 0) && (y1 == 0)) with
                      | false =>
                       rw [hzz] at two
                       have hb : TB = false := by rw [← HTB.out]; rw [HU.out, hzz]; rfl
                       go_wp2_with (first | (go_at_call 84; have CVx := CV; clear CV; refine (CVx.out _).mono ?_; rintro e w3 ⟨rfl, rfl⟩; clear CVx))
                       go_ret
                       exact ⟨ret_bool (by rw [← HRB.out]; exact (HTBf.out hb).symm), (TW0.out.and_then (Tw5.out.and_then HK.out))⟩
                      | true =>
                       rw [hzz] at two
                       have hb := HTBt.out (show TB = true by rw [← HTB.out]; rw [HU.out, hzz]; rfl)
                       have HB9 := kept hb
                       clear hb
                       go_wp2_with (first | (go_at_call 84; have CVx := CV; clear CV; refine (CVx.out _).mono ?_; rintro e w3 ⟨rfl, rfl⟩; clear CVx))
                       go_roundw
                       case rel =>
                        refine ⟨k + 1, by omega, by go_num, ?_, (Tw5.out.and_then HK.out), by rw [HSn.out]; omega, (show Hid _ from fun q hq2 => ?_)⟩
                        ·rw [HSn.out]; go_num
                        ·by_cases e : q = k
                         ·subst e; exact HB9.out
                         ·exact A.out q (by omega)
                       case measure => simp [intOf]; omega
                    have q2' : (yk == 2) = false := by simpa using k2
                    have hb : TB = false := by rw [← HTB.out]; unfold termB; rw [if_neg k0, if_neg k1, if_neg k2]
                    go_wp2
                    go_ret
                    exact ⟨ret_bool (by rw [← HRB.out]; exact (HTBf.out hb).symm), (TW0.out.and_then (Tw5.out.and_then HK.out))⟩
       ·have hltz : ¬ (k : Int) < (f.nb : Int) := by omega
        obtain rfl : f.nb = k := by omega
        go_wp2
        go_ret
        exact ⟨ret_bool (by rw [← HRB.out]; exact (ref_yes HC.out P1.out P2.out A.out).symm), (TW0.out.and_then HK.out)⟩
end Go.Proofs.YtjllbchfojonhaaGreatDoor
