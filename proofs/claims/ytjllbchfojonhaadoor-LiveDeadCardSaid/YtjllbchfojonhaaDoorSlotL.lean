/- A slot program, by the document; contracts. -/
import Derived.Test.YtjllbchfojonhaaDoorRefTy
import Derived.Test.YtjllbchfojonhaaDoorRefShB
import Derived.Test.YtjllbchfojonhaaDoorLives6
namespace Go.Proofs.YtjllbchfojonhaaDoor
open Go.RowKit
set_option linter.unusedVariables false
set_option linter.unusedSimpArgs false

theorem sblk_no {f : FuncM} {k : Nat} (hk : k < f.nb) (h : sblockB f.blocks.2[k]! = false) : slotB f = false := by
 unfold slotB
 rw [Bool.and_eq_false_iff]
 exact .inr (all_no (p := sblockB) hk h)
theorem sblk_no1 {y : BlockM} (h : 0 < y.phis.2.length) : sblockB y = false := by
 unfold sblockB
 rw [show (y.phis.2.length == 0) = false by rw [beq_eq_false_iff_ne]; omega]
 rfl
theorem sblk_no2 {y : BlockM} {j : Nat} (hj : j < y.insts.2.length) (h : (!(y.insts.2[j]!.op == 25 || y.insts.2[j]!.op == 26)) = false) : sblockB y = false := by
 unfold sblockB
 rw [all_no (p := fun x : InstM => !(x.op == 25 || x.op == 26)) hj h]
 simp
theorem sblk_yes {y : BlockM} (h : ¬ 0 < y.phis.2.length) (h2 : ∀ j, j < y.insts.2.length → (!(y.insts.2[j]!.op == 25 || y.insts.2[j]!.op == 26)) = true) : sblockB y = true := by
 unfold sblockB
 rw [all_yes (p := fun x : InstM => !(x.op == 25 || x.op == 26)) h2, show (y.phis.2.length == 0) = true by rw [beq_iff_eq]; omega]
 rfl

set_option maxRecDepth 100000 in
set_option maxHeartbeats 200000000 in
theorem refSlot_any (f : FuncM) (w : World) (hf : FuncAt w f) (hS : shapedB f = true) (hfew : FewP f) : Calls Tryd.prog 44 #[f.val] w fun e w' => e = .returned (.bool (slotB f)) ∧ Keeps w w' [] := by
 obtain ⟨a0, c0, e0, -, -, hc0⟩ := hf.vars.open_
 obtain ⟨a1, c1, e1, -, -, hc1⟩ := (show Row w 1 f.params.1 (f.params.2.map intCells) from hf.params).open_
 obtain ⟨a2, c2, e2, -, -, hc2⟩ := hf.blocks.open_
 have hval : f.val = .agg #[.slice a0 f.nv c0, .slice a1 f.np c1, .slice a2 f.nb c2] := by unfold FuncM.val FuncM.nv FuncM.np FuncM.nb; rw [e0, e1, e2]
 have h1 : #[f.vars.1, f.params.1, f.blocks.1] = #[.slice a0 f.nv c0, .slice a1 f.np c1, .slice a2 f.nb c2] := by unfold FuncM.nv FuncM.np FuncM.nb; rw [e0, e1, e2]
 have HF := kept hf
 have HC0 := kept hc0
 have HC1 := kept hc1
 have HC2 := kept hc2
 have HNV := kept (show f.vars.2.length = f.nv from rfl)
 have HNP := kept (show f.params.2.length = f.np from rfl)
 have HNB := kept (show f.blocks.2.length = f.nb from rfl)
 have HSh := kept (shaped_blocks hS)
 have hnbF := hfew.nb
 have HFB := kept hfew.block
 have CT := kept (fun W h => refTyped_any f W h hS hfew)
 rw [hval] at CT ⊢
 clear e0 e1 e2 hval h1 hf hc0 hc1 hc2 hfew hS
 generalize hRB : slotB f = RB at *
 have HRB := kept hRB
 clear hRB
 have hk0 : Keeps w (w.alloc (.cells #[.slice a0 f.nv c0, .slice a1 f.np c1, .slice a2 f.nb c2] 26)) [] := (Keeps.refl _ []).alloc _
 have bb0 := Blk.new w 26 #[.slice a0 f.nv c0, .slice a1 f.np c1, .slice a2 f.nb c2]
 have Bl := kept bb0
 have HK := kept hk0
 obtain ⟨l0, l1, l2⟩ := Bl.out.c3
 simp at l0 l1 l2
 clear hk0 bb0
 go_enter Tryd.func44, Tryd.ntmps44
 go_wp2
 clear l0 l1 l2
 generalize (w.alloc (.cells #[.slice a0 f.nv c0, .slice a1 f.np c1, .slice a2 f.nb c2] 26)) = W0 at *
 have Bl_W0 := Bl
 have TW0 := HK
 clear HK
 have HK := kept (Keeps.refl W0 [])
 obtain ⟨l0, l1, l2⟩ := Bl.out.c3
 simp at l0 l1 l2
 go_loopw [10] (fun i wr => ∃ k : Nat, k ≤ f.nb ∧ i = .int .i64 k ∧ Keeps W0 wr [] ∧ Hid (∀ j, j < k → sblockB f.blocks.2[j]! = true)) (fun i _ => f.nb - (intOf i).toNat)
 case atStart => exact ⟨0, Nat.zero_le _, rfl, HK.out, fun j hj => absurd hj (Nat.not_lt_zero _)⟩
 case round =>
  obtain ⟨k, hk, rfl, hr, A⟩ := hrel
  obtain ⟨wb, hwb⟩ : ∃ wb : World, wb = wr := ⟨_, rfl⟩
  subst hwb
  clear l0 l1 l2
  clear Bl HK
  have HK := kept hr
  have Bl := kept (Bl_W0.out.keep hr (by simp))
  clear hr
  obtain ⟨l0, l1, l2⟩ := Bl.out.c3
  simp at l0 l1 l2
  by_cases hlt : k < f.nb
  ·have hltz : (k : Int) < (f.nb : Int) := by omega
   obtain ⟨bb, off, rfl, hbl, hcell⟩ := HC2.out k (by rw [HNB.out]; exact hlt)
   have n0 := (TW0.out.and_then HK.out).cellOf (hcell 0 _ rfl)
   have n1 := (TW0.out.and_then HK.out).cellOf (hcell 1 _ rfl)
   have n2 := (TW0.out.and_then HK.out).cellOf (hcell 2 _ rfl)
   have n3 := (TW0.out.and_then HK.out).cellOf (hcell 3 _ rfl)
   have n4 := (TW0.out.and_then HK.out).cellOf (hcell 4 _ rfl)
   have n5 := (TW0.out.and_then HK.out).cellOf (hcell 5 _ rfl)
   have n6 := (TW0.out.and_then HK.out).cellOf (hcell 6 _ rfl)
   simp only [Nat.add_zero] at n0
   have hyb := (HF.out.keep (TW0.out.and_then HK.out)).block _ (bang_mem (l := f.blocks.2) (k := k) (by rw [HNB.out]; exact hlt))
   have hfb := (HFB.out _ (bang_mem (l := f.blocks.2) (k := k) (by rw [HNB.out]; exact hlt))).2
   have hsh := (HSh.out _ (bang_mem (l := f.blocks.2) (k := k) (by rw [HNB.out]; exact hlt))).2.1
   clear hcell
   generalize hy : f.blocks.2[k]! = y at *
   have HY := kept hy
   clear hy
   have HSI := kept hsh
   clear hsh
   obtain ⟨pa, pc, pe, -, -, -⟩ := hyb.phis.open_
   obtain ⟨qa, qc, qe, -, -, hqc⟩ := hyb.insts.open_
   have HYB := kept hyb
   rw [pe] at n1
   rw [qe] at n2
   have HQC := kept hqc
   clear hyb pe qe hqc
   generalize hPN : y.phis.2.length = pn at *
   generalize hQN : y.insts.2.length = qn at *
   have HPN := kept hPN
   have HQN := kept hQN
   clear hPN hQN
   generalize y.name = yn at *
   generalize y.kind = yk at *
   generalize y.var = yv at *
   generalize y.to0 = y0 at *
   generalize y.to1 = y1 at *
   clear l0 l1 l2
   have bmx := Blk.new wb 39 #[.string yn, .slice pa pn pc, .slice qa qn qc, .int .i64 yk, .int .i64 yv, .int .i64 y0, .int .i64 y1]
   have k3 : Keeps wb (wb.alloc (.cells #[.string yn, .slice pa pn pc, .slice qa qn qc, .int .i64 yk, .int .i64 yv, .int .i64 y0, .int .i64 y1] 39)) [] := (Keeps.refl wb []).alloc _
   replace Bl := kept (Bl.out.keep k3 (by simp))
   replace HK := kept (HK.out.and_then k3)
   clear k3
   have Bm := kept bmx
   clear bmx
   obtain ⟨l0, l1, l2⟩ := Bl.out.c3
   obtain ⟨m0, m1, m2, m3, m4, m5, m6⟩ := Bm.out.c7
   simp at l0 l1 l2 m0 m1 m2 m3 m4 m5 m6
   by_cases h0p : (0 : Int) < (pn : Int)
   ·go_wp2
    go_ret
    exact ⟨ret_bool (by rw [← HRB.out]; exact (sblk_no hlt (by rw [HY.out]; exact (sblk_no1 (by rw [HPN.out]; omega)))).symm), (TW0.out.and_then HK.out)⟩
   go_wp2
   clear n0 n1 n2 n3 n4 n5 n6
   have KB : Hid (Keeps wb (wb.alloc (.cells #[.string yn, .slice pa pn pc, .slice qa qn qc, .int .i64 yk, .int .i64 yv, .int .i64 y0, .int .i64 y1] 39)) []) := (Keeps.refl wb []).alloc _
   clear l0 l1 l2 m0 m1 m2 m3 m4 m5 m6
   generalize wb.alloc (.cells #[.string yn, .slice pa pn pc, .slice qa qn qc, .int .i64 yk, .int .i64 yv, .int .i64 y0, .int .i64 y1] 39) = WB at *
   have Bl_WB := Bl
   have Bm_WB := Bm
   have TWB := HK
   clear HK
   have HK := kept (Keeps.refl WB [])
   obtain ⟨l0, l1, l2⟩ := Bl.out.c3
   obtain ⟨m0, m1, m2, m3, m4, m5, m6⟩ := Bm.out.c7
   simp at l0 l1 l2 m0 m1 m2 m3 m4 m5 m6
   go_loopw [21] (fun i wr => ∃ j : Nat, j ≤ qn ∧ i = .int .i64 j ∧ Keeps WB wr [] ∧ Hid (∀ q, q < j → (!(y.insts.2[q]!.op == 25 || y.insts.2[q]!.op == 26)) = true)) (fun i _ => qn - (intOf i).toNat)
   case atStart => exact ⟨0, Nat.zero_le _, rfl, Keeps.refl _ _, fun j hj => absurd hj (Nat.not_lt_zero _)⟩
   case round =>
    obtain ⟨j, hj, rfl, hr, A3⟩ := hrel
    obtain ⟨wd, hwd⟩ : ∃ wd : World, wd = wr := ⟨_, rfl⟩
    subst hwd
    clear l0 l1 l2 m0 m1 m2 m3 m4 m5 m6
    clear Bl Bm HK
    have HK := kept hr
    have Bl := kept (Bl_WB.out.keep hr (by simp))
    have Bm := kept (Bm_WB.out.keep hr (by simp))
    clear hr
    obtain ⟨l0, l1, l2⟩ := Bl.out.c3
    obtain ⟨m0, m1, m2, m3, m4, m5, m6⟩ := Bm.out.c7
    simp at l0 l1 l2 m0 m1 m2 m3 m4 m5 m6
    by_cases hltj : j < qn
    ·have hltjz : (j : Int) < (qn : Int) := by omega
     obtain ⟨pb, po, rfl, hpb, hpcell⟩ := HQC.out j hltj
     have n0 := (KB.out.and_then HK.out).cellOf (hpcell 0 _ rfl)
     have n1 := (KB.out.and_then HK.out).cellOf (hpcell 1 _ rfl)
     have n2 := (KB.out.and_then HK.out).cellOf (hpcell 2 _ rfl)
     have n3 := (KB.out.and_then HK.out).cellOf (hpcell 3 _ rfl)
     simp only [Nat.add_zero] at n0
     have hpa := Row.keep (HYB.out.inst _ (bang_mem (l := y.insts.2) (k := j) (by rw [HQN.out]; exact hltj))) (KB.out.and_then HK.out)
     have hop := (inst_parts (HSI.out _ (bang_mem (l := y.insts.2) (k := j) (by rw [HQN.out]; exact hltj)))).1
     clear hpcell
     generalize hp : y.insts.2[j]! = p at *
     have HP := kept hp
     clear hp
     obtain ⟨ua, va1, e1, -⟩ := IntsAt.open_ hpa
     rw [e1] at n2
     clear e1 hpa
     generalize p.args.2.length = pna at *
     generalize hpo : p.op = pop at *
     have HPO := kept hpo
     clear hpo
     generalize p.dst = pdst at *
     generalize p.num = pnum at *
     clear l0 l1 l2 m0 m1 m2 m3 m4 m5 m6
     have bmx := Blk.new wd 42 #[.int .i64 pop, .int .i64 pdst, .slice ua pna va1, .int .i64 pnum]
     have k3 : Keeps wd (wd.alloc (.cells #[.int .i64 pop, .int .i64 pdst, .slice ua pna va1, .int .i64 pnum] 42)) [] := (Keeps.refl wd []).alloc _
     replace Bl := kept (Bl.out.keep k3 (by simp))
     replace Bm := kept (Bm.out.keep k3 (by simp))
     replace HK := kept (HK.out.and_then k3)
     clear k3
     have Bq := kept bmx
     clear bmx
     obtain ⟨l0, l1, l2⟩ := Bl.out.c3
     obtain ⟨m0, m1, m2, m3, m4, m5, m6⟩ := Bm.out.c7
     obtain ⟨q0, q1, q2, q3⟩ := Bq.out.c4
     simp at l0 l1 l2 m0 m1 m2 m3 m4 m5 m6 q0 q1 q2 q3
     by_cases h25 : 25 ≤ pop
     ·go_wp2
      go_ret
      exact ⟨ret_bool (by rw [← HRB.out]; exact (sblk_no hlt (by rw [HY.out]; exact (sblk_no2 (j := j) (by rw [HQN.out]; exact hltj) (by rw [HP.out, HPO.out]; rcases (show pop = 25 ∨ pop = 26 by omega) with rfl | rfl <;> rfl)))).symm), (TW0.out.and_then (TWB.out.and_then HK.out))⟩
     ·have HOK := kept (show (!(pop == 25 || pop == 26)) = true by rw [show (pop == 25) = false by rw [beq_eq_false_iff_ne]; omega, show (pop == 26) = false by rw [beq_eq_false_iff_ne]; omega]; rfl)
      go_wp2
      go_roundw
      case rel =>
       refine ⟨j + 1, by omega, by go_num, HK.out, (show Hid _ from fun q hq => ?_)⟩
       by_cases e : q = j
       ·subst e; rw [HP.out, HPO.out]; exact HOK.out
       ·exact A3.out q (by omega)
      case measure => simp [intOf]; omega
    ·have hltjz : ¬ (j : Int) < (qn : Int) := by omega
     obtain rfl : qn = j := by omega
     have HSB := kept (sblk_yes (y := y) (by rw [HPN.out]; omega) (fun j hj => A3.out j (by rw [← HQN.out]; exact hj)))
     go_wp2
     go_roundw
     case rel =>
      refine ⟨k + 1, by omega, by go_num, (TWB.out.and_then HK.out), (show Hid _ from fun q hq => ?_)⟩
      by_cases e : q = k
      ·subst e; rw [HY.out]; exact HSB.out
      ·exact A.out q (by omega)
     case measure => simp [intOf]; omega
  ·have hltz : ¬ (k : Int) < (f.nb : Int) := by omega
   obtain rfl : f.nb = k := by omega
   have HSL := kept (show slotB f = typedB f by unfold slotB; rw [show (f.blocks.2.all fun b => (b.phis.2.length == 0) && b.insts.2.all fun x => !(x.op == 25 || x.op == 26)) = true from all_yes (p := sblockB) (fun j hj => A.out j (by rw [← HNB.out]; exact hj)), Bool.and_true])
   go_wp2_with (first | (go_at_call 13; refine (CT.out _ (HF.out.keep (TW0.out.and_then HK.out))).mono ?_; rintro e w6 ⟨rfl, k3⟩; clear l0 l1 l2; replace Bl := kept (Bl.out.keep k3 (by simp)); replace HK := kept (HK.out.and_then k3); obtain ⟨l0, l1, l2⟩ := Bl.out.c3; simp at l0 l1 l2; clear k3))
   go_ret
   exact ⟨ret_bool (by rw [← HRB.out, HSL.out]), (TW0.out.and_then HK.out)⟩

theorem shapedL_any (f : FuncM) (w : World) (ht : Tabs w) (hf : FuncAt w f) (hfew : FewP f) : Calls Tryd.prog 12 #[f.val] w fun e w' => e = .returned (.bool (shapedB f)) ∧ Keeps w w' [] := by
 have CS := kept (fun W h1 h2 => refShaped_any0 f W h1 h2 hfew)
 rw [shaped_eq] at CS
 have HT := kept ht
 obtain ⟨a0, c0, e0, -, -, hc0⟩ := hf.vars.open_
 obtain ⟨a1, c1, e1, -, -, hc1⟩ := (show Row w 1 f.params.1 (f.params.2.map intCells) from hf.params).open_
 obtain ⟨a2, c2, e2, -, -, hc2⟩ := hf.blocks.open_
 have hval : f.val = .agg #[.slice a0 f.nv c0, .slice a1 f.np c1, .slice a2 f.nb c2] := by unfold FuncM.val FuncM.nv FuncM.np FuncM.nb; rw [e0, e1, e2]
 have h1 : #[f.vars.1, f.params.1, f.blocks.1] = #[.slice a0 f.nv c0, .slice a1 f.np c1, .slice a2 f.nb c2] := by unfold FuncM.nv FuncM.np FuncM.nb; rw [e0, e1, e2]
 have HF := kept hf
 have HC0 := kept hc0
 have HC1 := kept hc1
 have HC2 := kept hc2
 have HNV := kept (show f.vars.2.length = f.nv from rfl)
 have HNP := kept (show f.params.2.length = f.np from rfl)
 have HNB := kept (show f.blocks.2.length = f.nb from rfl)
 rw [hval] at CS ⊢
 clear e0 e1 e2 hval h1 hf hc0 hc1 hc2 HC0 HC1 HC2 hfew ht
 have hk0 : Keeps w (w.alloc (.cells #[.slice a0 f.nv c0, .slice a1 f.np c1, .slice a2 f.nb c2] 26)) [] := (Keeps.refl _ []).alloc _
 have bb0 := Blk.new w 26 #[.slice a0 f.nv c0, .slice a1 f.np c1, .slice a2 f.nb c2]
 have Bl := kept bb0
 have HK := kept hk0
 obtain ⟨l0, l1, l2⟩ := Bl.out.c3
 simp at l0 l1 l2
 clear hk0 bb0
 go_enter Tryd.func12, Tryd.ntmps12
 go_wp2_with (first | (go_at_call 34; refine (CS.out _ (HT.out.keep HK.out) (HF.out.keep HK.out)).mono ?_; rintro e w3 ⟨rfl, k3⟩; clear l0 l1 l2; replace Bl := kept (Bl.out.keep k3 (by simp)); replace HK := kept (HK.out.and_then k3); obtain ⟨l0, l1, l2⟩ := Bl.out.c3; simp at l0 l1 l2; clear k3))
 go_ret
 exact ⟨rfl, HK.out⟩

theorem slotL_any (f : FuncM) (w : World) (ht : Tabs w) (hf : FuncAt w f) (hfew : FewP f) : Calls Tryd.prog 16 #[f.val] w fun e w' => e = .returned (.bool (shapedB f && slotB f)) ∧ Keeps w w' [] := by
 have CS := kept (fun W h1 h2 => shapedL_any f W h1 h2 hfew)
 have CR := kept (fun W h1 h2 => refSlot_any f W h1 h2 hfew)
 have HT := kept ht
 obtain ⟨a0, c0, e0, -, -, hc0⟩ := hf.vars.open_
 obtain ⟨a1, c1, e1, -, -, hc1⟩ := (show Row w 1 f.params.1 (f.params.2.map intCells) from hf.params).open_
 obtain ⟨a2, c2, e2, -, -, hc2⟩ := hf.blocks.open_
 have hval : f.val = .agg #[.slice a0 f.nv c0, .slice a1 f.np c1, .slice a2 f.nb c2] := by unfold FuncM.val FuncM.nv FuncM.np FuncM.nb; rw [e0, e1, e2]
 have h1 : #[f.vars.1, f.params.1, f.blocks.1] = #[.slice a0 f.nv c0, .slice a1 f.np c1, .slice a2 f.nb c2] := by unfold FuncM.nv FuncM.np FuncM.nb; rw [e0, e1, e2]
 have HF := kept hf
 have HC0 := kept hc0
 have HC1 := kept hc1
 have HC2 := kept hc2
 have HNV := kept (show f.vars.2.length = f.nv from rfl)
 have HNP := kept (show f.params.2.length = f.np from rfl)
 have HNB := kept (show f.blocks.2.length = f.nb from rfl)
 rw [hval] at CS CR ⊢
 clear e0 e1 e2 hval h1 hf hc0 hc1 hc2 HC0 HC1 HC2 hfew ht
 have hk0 : Keeps w (w.alloc (.cells #[.slice a0 f.nv c0, .slice a1 f.np c1, .slice a2 f.nb c2] 26)) [] := (Keeps.refl _ []).alloc _
 have bb0 := Blk.new w 26 #[.slice a0 f.nv c0, .slice a1 f.np c1, .slice a2 f.nb c2]
 have Bl := kept bb0
 have HK := kept hk0
 obtain ⟨l0, l1, l2⟩ := Bl.out.c3
 simp at l0 l1 l2
 clear hk0 bb0
 generalize slotB f = SB at *
 cases hs : shapedB f with
 | false =>
  rw [hs] at CS
  go_enter Tryd.func16, Tryd.ntmps16
  go_wp2_with (first | (go_at_call 12; refine (CS.out _ (HT.out.keep HK.out) (HF.out.keep HK.out)).mono ?_; rintro e w3 ⟨rfl, k3⟩; clear l0 l1 l2; replace Bl := kept (Bl.out.keep k3 (by simp)); replace HK := kept (HK.out.and_then k3); obtain ⟨l0, l1, l2⟩ := Bl.out.c3; simp at l0 l1 l2; clear k3))
  go_ret
  exact ⟨rfl, HK.out⟩
 | true =>
  rw [hs] at CS
  have CR2 := kept (fun W h1 => CR.out W h1 hs)
  go_enter Tryd.func16, Tryd.ntmps16
  go_wp2_with (first | (go_at_call 12; refine (CS.out _ (HT.out.keep HK.out) (HF.out.keep HK.out)).mono ?_; rintro e w3 ⟨rfl, k3⟩; clear l0 l1 l2; replace Bl := kept (Bl.out.keep k3 (by simp)); replace HK := kept (HK.out.and_then k3); obtain ⟨l0, l1, l2⟩ := Bl.out.c3; simp at l0 l1 l2; clear k3) | (go_at_call 44; refine (CR2.out _ (HF.out.keep HK.out)).mono ?_; rintro e w4 ⟨rfl, k3⟩; clear l0 l1 l2; replace Bl := kept (Bl.out.keep k3 (by simp)); replace HK := kept (HK.out.and_then k3); obtain ⟨l0, l1, l2⟩ := Bl.out.c3; simp at l0 l1 l2; clear k3))
  go_ret
  exact ⟨ret_bool (by simp), HK.out⟩
end Go.Proofs.YtjllbchfojonhaaDoor
