/- Package print: Shaped; contract. -/
import Derived.Test.YtjllbchfojonhaaGreatDoorShapedC
namespace Go.Proofs.YtjllbchfojonhaaGreatDoor
open Go.RowKit
set_option linter.unusedVariables false
set_option linter.unusedSimpArgs false

set_option maxRecDepth 100000 in
set_option maxHeartbeats 4000000 in
theorem shaped_any (f : FuncM) (w : World) (ht : Tabs w) (hf : FuncAt w f) (hfew : FewP f) : Calls Tryz.prog 54 #[f.val] w fun e w' => e = .returned (.bool (shapedB f)) ∧ Keeps w w' [] := by
 have hk0 : Keeps w (w.alloc (.cells #[f.vars.1, f.params.1, f.blocks.1] 26)) [] := (Keeps.refl w []).alloc _
 have CN := kept (names_any f _ (ht.keep hk0) (hf.keep hk0) hfew)
 have hbx := Boxed.new w f
 have HF := kept (hf.keep hk0)
 obtain ⟨a0, c0, e0, -, -, -⟩ := hf.vars.open_
 obtain ⟨a1, c1, e1, -, -, -⟩ := (show Row w 1 f.params.1 (f.params.2.map intCells) from hf.params).open_
 obtain ⟨a2, c2, e2, -, -, hc2⟩ := (hf.keep hk0).blocks.open_
 have hval : f.val = .agg #[.slice a0 f.nv c0, .slice a1 f.np c1, .slice a2 f.nb c2] := by unfold FuncM.val FuncM.nv FuncM.np FuncM.nb; rw [e0, e1, e2]
 have h1 : #[f.vars.1, f.params.1, f.blocks.1] = #[.slice a0 f.nv c0, .slice a1 f.np c1, .slice a2 f.nb c2] := by
  unfold FuncM.val at hval
  injection hval
 have HB := kept hbx
 unfold Boxed at hbx
 have CT := kept (fun (y : BlockM) W hf => term_any f y.kind y.var y.to0 y.to1 W hf)
 rw [hval] at CN CT ⊢
 rw [h1] at hbx CN HF HB hc2 hk0
 have HC2 := kept hc2
 have HW := kept hk0
 have Bl := kept hbx
 have HX := kept (show shapedB f = (namesB f && (f.blocks.2.all (blockB f) && decide (bsum f.blocks.2 ≤ 1024))) from rfl)
 have hnb := hfew.nb
 have HFB := kept hfew.block
 have HNB := kept (show f.blocks.2.length = f.nb from rfl)
 obtain ⟨l0, l1, l2⟩ := Bl.out.c3
 simp at l0 l1 l2
 generalize f.nv = nv at *
 generalize f.np = np at *
 generalize f.nb = nb at *
 generalize shapedB f = SB at *
 clear e0 e1 e2 hval h1 hbx hf ht hfew hc2 hk0
 cases hN : namesB f with
 | false =>
  rw [hN] at CN HX
  go_enter Tryz.func54, Tryz.ntmps54
  go_wp2_with (go_at_call 85; refine (CN.out).mono ?_; rintro e w3 ⟨rfl, k3⟩; have K3 := kept k3; clear k3)
  go_ret
  exact ⟨ret_bool (by rw [HX.out]; rfl), HW.out.and_then K3.out⟩
 | true =>
  rw [hN] at CN HX
  clear hN
  go_enter Tryz.func54, Tryz.ntmps54
  go_wp2_with (go_at_call 85; refine (CN.out).mono ?_; rintro e w3 ⟨rfl, k3⟩; have K3 := kept k3; clear k3; clear l0 l1 l2; have Blx := kept (Bl.out.keep K3.out (by simp)); obtain ⟨l0, l1, l2⟩ := Blx.out.c3; simp at l0 l1 l2)
  clear l0 l1 l2 Blx CN
  have HKw := kept K3.out
  go_loopw [3, 13] (fun s i wr => ∃ k : Nat, k ≤ nb ∧ i = .int .i64 k ∧ s = .int .i64 (bsum (f.blocks.2.take k)) ∧ Keeps (w.alloc (.cells #[.slice a0 nv c0, .slice a1 np c1, .slice a2 nb c2] 26)) wr [] ∧ bsum (f.blocks.2.take k) ≤ 800 * k ∧ Hid (∀ j, j < k → blockB f f.blocks.2[j]! = true)) (fun _ i _ => nb - (intOf i).toNat)
  case atStart => exact ⟨0, Nat.zero_le _, rfl, rfl, K3.out, Nat.le_refl _, fun j hj => absurd hj (Nat.not_lt_zero _)⟩
  case round =>
   clear HKw K3
   obtain ⟨k, hk, rfl, rfl, hK, hS, A⟩ := hrel
   have HK := kept hK
   clear hK
   by_cases hlt : k < nb
   ·have hltz : (k : Int) < (nb : Int) := by omega
    obtain ⟨bb, off, rfl, hbl, hcell⟩ := HC2.out k (by rw [HNB.out]; exact hlt)
    have n0 := HK.out.cellOf (hcell 0 _ rfl)
    have n1 := HK.out.cellOf (hcell 1 _ rfl)
    have n2 := HK.out.cellOf (hcell 2 _ rfl)
    have n3 := HK.out.cellOf (hcell 3 _ rfl)
    have n4 := HK.out.cellOf (hcell 4 _ rfl)
    have n5 := HK.out.cellOf (hcell 5 _ rfl)
    have n6 := HK.out.cellOf (hcell 6 _ rfl)
    simp only [Nat.add_zero] at n0
    clear hcell HC2
    have hy2 := HFB.out _ (bang_mem (l := f.blocks.2) (k := k) (by rw [HNB.out]; exact hlt))
    have hsn := bsum_snoc f.blocks.2 k (by rw [HNB.out]; exact hlt)
    have hyb := (HF.out.keep HK.out).block _ (bang_mem (l := f.blocks.2) (k := k) (by rw [HNB.out]; exact hlt))
    have HA := kept (show blockB f f.blocks.2[k]! = ((f.blocks.2[k]!).phis.2.all (phiB f) && (f.blocks.2[k]!).insts.2.all (instB f) && termB f (f.blocks.2[k]!).kind (f.blocks.2[k]!).var (f.blocks.2[k]!).to0 (f.blocks.2[k]!).to1) from rfl)
    have HAll := kept (fun h : blockB f f.blocks.2[k]! = false => all_no (p := blockB f) (k := k) (show k < f.blocks.2.length by rw [HNB.out]; exact hlt) h)
    generalize hy : f.blocks.2[k]! = y at *
    have HY := kept hy
    clear hy
    have C1 := kept (fun W (kW : Keeps wr W []) => phisBad f y w.heap.size W ((HF.out.keep HK.out).keep kW) (hyb.keep kW) ((HB.out.keep HK.out).keep kW))
    have C2 := kept (fun W (kW : Keeps wr W []) => instsBad f y w.heap.size W ((HF.out.keep HK.out).keep kW) (hyb.keep kW) ((HB.out.keep HK.out).keep kW))
    have C3 := kept (fun W (kW : Keeps wr W []) => CT.out y W ((HF.out.keep HK.out).keep kW))
    obtain ⟨pa, pc, pe, -, -, -⟩ := hyb.phis.open_
    obtain ⟨qa, qc, qe, -, -, -⟩ := hyb.insts.open_
    rw [pe] at n1 C1
    rw [qe] at n2 C2
    obtain ⟨hp4, hi4⟩ := hy2
    clear hyb pe qe CT
    generalize y.phis.2.all (phiB f) = A1 at *
    generalize y.insts.2.all (instB f) = A2 at *
    generalize termB f y.kind y.var y.to0 y.to1 = A3 at *
    generalize y.phis.2.length = np' at *
    generalize y.insts.2.length = ni' at *
    generalize y.name = yn at *
    generalize y.kind = yk at *
    generalize y.var = yv at *
    generalize y.to0 = y0 at *
    generalize y.to1 = y1 at *
    have HSn := kept hsn
    clear hsn
    generalize bsum (f.blocks.2.take k) = S at *
    have Bm := kept (Blk.new wr 38 #[.string yn, .slice pa np' pc, .slice qa ni' qc, .int .i64 yk, .int .i64 yv, .int .i64 y0, .int .i64 y1])
    have HKy := kept (show Keeps wr (wr.alloc (.cells #[.string yn, .slice pa np' pc, .slice qa ni' qc, .int .i64 yk, .int .i64 yv, .int .i64 y0, .int .i64 y1] 38)) [] from (Keeps.refl wr []).alloc _)
    replace Bl := kept (Bl.out.keep (HK.out.and_then HKy.out) (by simp))
    obtain ⟨l0, l1, l2⟩ := Bl.out.c3
    obtain ⟨m0, m1, m2, m3, m4, m5, m6⟩ := Bm.out.c7
    simp at l0 l1 l2 m0 m1 m2 m3 m4 m5 m6
    cases A1
    ·go_wp2_with (first | (go_at_call 86; refine (C1.out _ HKy.out).mono ?_; rintro e w3 ⟨rfl, k3⟩; clear l0 l1 l2 m0 m1 m2 m3 m4 m5 m6; replace Bl := kept (Bl.out.keep k3 (by simp)); replace Bm := kept (Bm.out.keep k3 (by simp)); replace HKy := kept (HKy.out.and_then k3); obtain ⟨l0, l1, l2⟩ := Bl.out.c3; obtain ⟨m0, m1, m2, m3, m4, m5, m6⟩ := Bm.out.c7; simp at l0 l1 l2 m0 m1 m2 m3 m4 m5 m6; clear k3) | (go_at_call 89; refine (C2.out _ HKy.out).mono ?_; rintro e w3 ⟨rfl, k3⟩; clear l0 l1 l2 m0 m1 m2 m3 m4 m5 m6; replace Bl := kept (Bl.out.keep k3 (by simp)); replace Bm := kept (Bm.out.keep k3 (by simp)); replace HKy := kept (HKy.out.and_then k3); obtain ⟨l0, l1, l2⟩ := Bl.out.c3; obtain ⟨m0, m1, m2, m3, m4, m5, m6⟩ := Bm.out.c7; simp at l0 l1 l2 m0 m1 m2 m3 m4 m5 m6; clear k3) | (go_at_call 92; refine (C3.out _ HKy.out).mono ?_; rintro e w3 ⟨rfl, k3⟩; clear l0 l1 l2 m0 m1 m2 m3 m4 m5 m6; replace Bl := kept (Bl.out.keep k3 (by simp)); replace Bm := kept (Bm.out.keep k3 (by simp)); replace HKy := kept (HKy.out.and_then k3); obtain ⟨l0, l1, l2⟩ := Bl.out.c3; obtain ⟨m0, m1, m2, m3, m4, m5, m6⟩ := Bm.out.c7; simp at l0 l1 l2 m0 m1 m2 m3 m4 m5 m6; clear k3))
     go_ret
     exact ⟨ret_bool (by rw [HX.out, HAll.out (by rw [HA.out]; simp)]; simp), (HW.out.and_then HK.out).and_then HKy.out⟩
    ·cases A2
     ·go_wp2_with (first | (go_at_call 86; refine (C1.out _ HKy.out).mono ?_; rintro e w3 ⟨rfl, k3⟩; clear l0 l1 l2 m0 m1 m2 m3 m4 m5 m6; replace Bl := kept (Bl.out.keep k3 (by simp)); replace Bm := kept (Bm.out.keep k3 (by simp)); replace HKy := kept (HKy.out.and_then k3); obtain ⟨l0, l1, l2⟩ := Bl.out.c3; obtain ⟨m0, m1, m2, m3, m4, m5, m6⟩ := Bm.out.c7; simp at l0 l1 l2 m0 m1 m2 m3 m4 m5 m6; clear k3) | (go_at_call 89; refine (C2.out _ HKy.out).mono ?_; rintro e w3 ⟨rfl, k3⟩; clear l0 l1 l2 m0 m1 m2 m3 m4 m5 m6; replace Bl := kept (Bl.out.keep k3 (by simp)); replace Bm := kept (Bm.out.keep k3 (by simp)); replace HKy := kept (HKy.out.and_then k3); obtain ⟨l0, l1, l2⟩ := Bl.out.c3; obtain ⟨m0, m1, m2, m3, m4, m5, m6⟩ := Bm.out.c7; simp at l0 l1 l2 m0 m1 m2 m3 m4 m5 m6; clear k3) | (go_at_call 92; refine (C3.out _ HKy.out).mono ?_; rintro e w3 ⟨rfl, k3⟩; clear l0 l1 l2 m0 m1 m2 m3 m4 m5 m6; replace Bl := kept (Bl.out.keep k3 (by simp)); replace Bm := kept (Bm.out.keep k3 (by simp)); replace HKy := kept (HKy.out.and_then k3); obtain ⟨l0, l1, l2⟩ := Bl.out.c3; obtain ⟨m0, m1, m2, m3, m4, m5, m6⟩ := Bm.out.c7; simp at l0 l1 l2 m0 m1 m2 m3 m4 m5 m6; clear k3))
      go_ret
      exact ⟨ret_bool (by rw [HX.out, HAll.out (by rw [HA.out]; simp)]; simp), (HW.out.and_then HK.out).and_then HKy.out⟩
     ·cases A3
      ·go_wp2_with (first | (go_at_call 86; refine (C1.out _ HKy.out).mono ?_; rintro e w3 ⟨rfl, k3⟩; clear l0 l1 l2 m0 m1 m2 m3 m4 m5 m6; replace Bl := kept (Bl.out.keep k3 (by simp)); replace Bm := kept (Bm.out.keep k3 (by simp)); replace HKy := kept (HKy.out.and_then k3); obtain ⟨l0, l1, l2⟩ := Bl.out.c3; obtain ⟨m0, m1, m2, m3, m4, m5, m6⟩ := Bm.out.c7; simp at l0 l1 l2 m0 m1 m2 m3 m4 m5 m6; clear k3) | (go_at_call 89; refine (C2.out _ HKy.out).mono ?_; rintro e w3 ⟨rfl, k3⟩; clear l0 l1 l2 m0 m1 m2 m3 m4 m5 m6; replace Bl := kept (Bl.out.keep k3 (by simp)); replace Bm := kept (Bm.out.keep k3 (by simp)); replace HKy := kept (HKy.out.and_then k3); obtain ⟨l0, l1, l2⟩ := Bl.out.c3; obtain ⟨m0, m1, m2, m3, m4, m5, m6⟩ := Bm.out.c7; simp at l0 l1 l2 m0 m1 m2 m3 m4 m5 m6; clear k3) | (go_at_call 92; refine (C3.out _ HKy.out).mono ?_; rintro e w3 ⟨rfl, k3⟩; clear l0 l1 l2 m0 m1 m2 m3 m4 m5 m6; replace Bl := kept (Bl.out.keep k3 (by simp)); replace Bm := kept (Bm.out.keep k3 (by simp)); replace HKy := kept (HKy.out.and_then k3); obtain ⟨l0, l1, l2⟩ := Bl.out.c3; obtain ⟨m0, m1, m2, m3, m4, m5, m6⟩ := Bm.out.c7; simp at l0 l1 l2 m0 m1 m2 m3 m4 m5 m6; clear k3))
       go_ret
       exact ⟨ret_bool (by rw [HX.out, HAll.out (by rw [HA.out]; simp)]; simp), (HW.out.and_then HK.out).and_then HKy.out⟩
      ·go_wp2_with (first | (go_at_call 86; refine (C1.out _ HKy.out).mono ?_; rintro e w3 ⟨rfl, k3⟩; clear l0 l1 l2 m0 m1 m2 m3 m4 m5 m6; replace Bl := kept (Bl.out.keep k3 (by simp)); replace Bm := kept (Bm.out.keep k3 (by simp)); replace HKy := kept (HKy.out.and_then k3); obtain ⟨l0, l1, l2⟩ := Bl.out.c3; obtain ⟨m0, m1, m2, m3, m4, m5, m6⟩ := Bm.out.c7; simp at l0 l1 l2 m0 m1 m2 m3 m4 m5 m6; clear k3) | (go_at_call 89; refine (C2.out _ HKy.out).mono ?_; rintro e w3 ⟨rfl, k3⟩; clear l0 l1 l2 m0 m1 m2 m3 m4 m5 m6; replace Bl := kept (Bl.out.keep k3 (by simp)); replace Bm := kept (Bm.out.keep k3 (by simp)); replace HKy := kept (HKy.out.and_then k3); obtain ⟨l0, l1, l2⟩ := Bl.out.c3; obtain ⟨m0, m1, m2, m3, m4, m5, m6⟩ := Bm.out.c7; simp at l0 l1 l2 m0 m1 m2 m3 m4 m5 m6; clear k3) | (go_at_call 92; refine (C3.out _ HKy.out).mono ?_; rintro e w3 ⟨rfl, k3⟩; clear l0 l1 l2 m0 m1 m2 m3 m4 m5 m6; replace Bl := kept (Bl.out.keep k3 (by simp)); replace Bm := kept (Bm.out.keep k3 (by simp)); replace HKy := kept (HKy.out.and_then k3); obtain ⟨l0, l1, l2⟩ := Bl.out.c3; obtain ⟨m0, m1, m2, m3, m4, m5, m6⟩ := Bm.out.c7; simp at l0 l1 l2 m0 m1 m2 m3 m4 m5 m6; clear k3))
       go_roundw
       case rel =>
        refine ⟨k + 1, by omega, by go_num, ?_, HK.out.and_then HKy.out, ?_, (show Hid _ from fun j hj => ?_)⟩
        ·rw [HSn.out]; go_num
        ·rw [HSn.out]; omega
        ·by_cases e : j = k
         ·subst e; rw [HY.out, HA.out]; rfl
         ·exact A.out j (by omega)
       case measure => simp [intOf]; omega
   ·have hltz : ¬ (k : Int) < (nb : Int) := by omega
    obtain rfl : nb = k := by omega
    have HXX := kept (show SB = decide (bsum f.blocks.2 ≤ 1024) by
     rw [HX.out, all_yes (p := blockB f) (fun j hj => A.out j (by rw [← HNB.out]; exact hj))]; simp only [Bool.true_and])
    have he : f.blocks.2.take nb = f.blocks.2 := by rw [← HNB.out]; exact List.take_length
    rw [he]
    generalize bsum f.blocks.2 = S at *
    clear he HC2 HX A HFB HF HB CT hS
    go_wp2
    go_ret
    exact ⟨ret_bool (by rw [HXX.out, decide_eq_decide]; omega), HW.out.and_then HK.out⟩
end Go.Proofs.YtjllbchfojonhaaGreatDoor
